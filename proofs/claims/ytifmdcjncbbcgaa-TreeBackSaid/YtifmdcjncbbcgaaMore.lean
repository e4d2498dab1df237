/- More rules: slices of slices, shifts, floats, closures, scopes, results in memory, strings copied. -/
import Derived.Test.YtifmdcjncbbcgaaFloat
import Derived.ScopeJumps
import Derived.Lib.BufferWrite
set_option linter.unusedVariables false
set_option linter.unusedSimpArgs false
set_option maxRecDepth 10000
namespace Go.EW
open Go.RowKit

section
variable {P : Program} {n : Nat} {K : Kont} {D : List Deferred} {e : Env} {w : World} {Q : Post}
variable {dst : Option Tmp} {ty : TypeId} {pos : String} {af : Array Edge} {gd : Option (Nat × Bool)}

/-! ### slices of slices -/
theorem R_sliceLH {x y z : Operand} {t E : TypeId} {g i len cap s : Nat} (l h : Nat) {li hi : Int} {kl kh : IntKind} (hl : li = (l : Int)) (hh : hi = (h : Int)) (h1 : l ≤ h) (h2 : h ≤ cap) (h3 : l < cap ∨ l = 0)
    (hx : ev e x = some (.slice (some ⟨g, i, none⟩) len cap)) (hy : ev e y = some (.int kl li)) (hz : ev e z = some (.int kh hi)) (hu : P.underlying t = some (.slice E)) (hs : sizeOfT P E = some s) :
    Runs P e w ⟨dst, .slice t x (some y) (some z) none, ty, pos, af, gd⟩ (.slice (some ⟨g, i + l * s, none⟩) (h - l) (cap - l)) w := fun ρ hρ => by
  subst hl; subst hh
  have hb : (Instr.sliceBounds true len cap (some (.int kl (l : Int))) (some (.int kh (h : Int))) none).run P w = .ok (l, h, cap) w := by
    simp [Instr.sliceBounds, run_sliceBound _ kh _ _ _ (Int.natCast_nonneg h) (Int.ofNat_le.2 h2), run_sliceBound _ kl _ _ _ (Int.natCast_nonneg l) (Int.ofNat_le.2 h1)]
  have e0 : (if cap = l then some (⟨g, i, none⟩ : Addr) else some (⟨g, i + l * s, none⟩ : Addr)) = some ⟨g, i + l * s, none⟩ := by
    split
    · rcases h3 with h3 | h3
      · omega
      · subst h3; simp
    · rfl
  simp [execOp, hρ x _ hx, hρ y _ hy, hρ z _ hz, Instr.sliceAt, Instr.slice, run_underlying hu, hb, run_sizeOfT hs, add_none, e0]
theorem R_sliceH {x z : Operand} {t E : TypeId} {A : Option Addr} {len cap s : Nat} (h : Nat) {hi : Int} {kh : IntKind} (hh : hi = (h : Int)) (h2 : h ≤ cap)
    (hx : ev e x = some (.slice A len cap)) (hz : ev e z = some (.int kh hi)) (hu : P.underlying t = some (.slice E)) (hs : sizeOfT P E = some s) (hA : ∀ a, A = some a → a.spot = none) :
    Runs P e w ⟨dst, .slice t x none (some z) none, ty, pos, af, gd⟩ (.slice A h cap) w := fun ρ hρ => by
  subst hh
  have hb : (Instr.sliceBounds true len cap none (some (.int kh (h : Int))) none).run P w = .ok (0, h, cap) w := by
    simp [Instr.sliceBounds, run_sliceBound _ kh _ _ _ (Int.natCast_nonneg h) (Int.ofNat_le.2 h2)]
  have e0 : (if cap = 0 then A else A.map fun a => a.add 0) = A := by
    split
    · rfl
    · cases A with
      | none => rfl
      | some a => obtain ⟨g, i, sp⟩ := a; have := hA _ rfl; simp at this; subst this; simp [add_none]
  simp [execOp, hρ x _ hx, hρ z _ hz, Instr.sliceAt, Instr.slice, run_underlying hu, hb, run_sizeOfT hs, e0]
theorem R_sliceL {x y : Operand} {t E : TypeId} {g i len cap s : Nat} (l : Nat) {li : Int} {kl : IntKind} (hl : li = (l : Int)) (h1 : l ≤ len) (h3 : l < cap ∨ l = 0)
    (hx : ev e x = some (.slice (some ⟨g, i, none⟩) len cap)) (hy : ev e y = some (.int kl li)) (hu : P.underlying t = some (.slice E)) (hs : sizeOfT P E = some s) :
    Runs P e w ⟨dst, .slice t x (some y) none none, ty, pos, af, gd⟩ (.slice (some ⟨g, i + l * s, none⟩) (len - l) (cap - l)) w := fun ρ hρ => by
  subst hl
  have hb : (Instr.sliceBounds true len cap (some (.int kl (l : Int))) none none).run P w = .ok (l, len, cap) w := by
    simp [Instr.sliceBounds, run_sliceBound _ kl _ _ _ (Int.natCast_nonneg l) (Int.ofNat_le.2 h1)]
  have e0 : (if cap = l then some (⟨g, i, none⟩ : Addr) else some (⟨g, i + l * s, none⟩ : Addr)) = some ⟨g, i + l * s, none⟩ := by
    split
    · rcases h3 with h3 | h3
      · omega
      · subst h3; simp
    · rfl
  simp [execOp, hρ x _ hx, hρ y _ hy, Instr.sliceAt, Instr.slice, run_underlying hu, hb, run_sizeOfT hs, add_none, e0]

/-! ### shifts, or -/
theorem R_shrE {x y : Operand} {t yt : TypeId} {k yk : IntKind} {a b : Int} (r : Int) (hb : 0 ≤ b) (hk : b ≤ k.bits) (hr : a.fdiv (2 ^ b.toNat) = r) (hx : ev e x = some (.int k a)) (hy : ev e y = some (.int yk b)) :
    Runs P e w ⟨dst, .binOp .shr t x y yt, ty, pos, af, gd⟩ (.int k r) w := fun ρ h => by
  have hm : min b.toNat k.bits = b.toNat := by omega
  simp [execOp, h x _ hx, h y _ hy, eqGuard, binOp, Op.shift, Int.not_lt.2 hb, hm, hr]
theorem R_shlE {x y : Operand} {t yt : TypeId} {k yk : IntKind} {a b : Int} (r : Int) (hb : 0 ≤ b) (hk : b ≤ k.bits) (hr : k.wrap (a * 2 ^ b.toNat) = r) (hx : ev e x = some (.int k a)) (hy : ev e y = some (.int yk b)) :
    Runs P e w ⟨dst, .binOp .shl t x y yt, ty, pos, af, gd⟩ (.int k r) w := fun ρ h => by
  have hm : min b.toNat k.bits = b.toNat := by omega
  simp [execOp, h x _ hx, h y _ hy, eqGuard, binOp, Op.shift, Int.not_lt.2 hb, hm, hr]
theorem R_orE {x y : Operand} {t yt : TypeId} {k : IntKind} {a b : Int} (r : Int) (hr : k.wrap (BitVec.ofInt k.bits a ||| BitVec.ofInt k.bits b).toNat = r) (hx : ev e x = some (.int k a)) (hy : ev e y = some (.int k b)) :
    Runs P e w ⟨dst, .binOp .or t x y yt, ty, pos, af, gd⟩ (.int k r) w := fun ρ h => by
  have hb : (Op.intBits .or k a b).run P w = .ok (.int k r) w := by rw [← hr]; rfl
  simp [execOp, h x _ hx, h y _ hy, eqGuard, binOp, hb]
/-! ### whole numbers of other kinds -/
theorem R_mulK {x y : Operand} {t yt : TypeId} {k : IntKind} {a b : Int} (r : Int) (hr : k.wrap (a * b) = r) (hx : ev e x = some (.int k a)) (hy : ev e y = some (.int k b)) : Runs P e w ⟨dst, .binOp .mul t x y yt, ty, pos, af, gd⟩ (.int k r) w := hr ▸ R_mul hx hy
theorem R_addK {x y : Operand} {t yt : TypeId} {k : IntKind} {a b : Int} (r : Int) (hr : k.wrap (a + b) = r) (hx : ev e x = some (.int k a)) (hy : ev e y = some (.int k b)) : Runs P e w ⟨dst, .binOp .add t x y yt, ty, pos, af, gd⟩ (.int k r) w := hr ▸ R_add hx hy
/-- a remainder, of whatever sign -/
theorem R_remT {x y : Operand} {t yt : TypeId} {k : IntKind} {a b : Int} (r : Int) (hb : 0 < b) (hr : a.tmod b = r) (hw : k.wrap r = r) (hx : ev e x = some (.int k a)) (hy : ev e y = some (.int k b)) : Runs P e w ⟨dst, .binOp .rem t x y yt, ty, pos, af, gd⟩ (.int k r) w := fun ρ h => by
  simp [execOp, h x _ hx, h y _ hy, eqGuard, binOp, Op.intDiv, Int.ne_of_gt hb, hr, hw]
/-! ### floats, complex numbers -/
theorem R_intFloat {x : Operand} {s d : TypeId} {ds : TypeDesc} {k : IntKind} {a : Int} (hx : ev e x = some (.int k a)) (hs : P.underlying s = some ds) (hd : P.underlying d = some (.float .f64)) :
    Runs P e w ⟨dst, .convert s d x, ty, pos, af, gd⟩ (.float .f64 (fB a)) w := fun ρ h => by
  have hrun : (convert s d (.int k a)).run P w = .ok (.float .f64 (fB a)) w := run_convert_int_float (P := P) w s d k .f64 a (by rw [hs]; rfl) hd
  simp [execOp, h x _ hx, hrun]
theorem R_floatInt {x : Operand} {s d : TypeId} {ds : TypeDesc} {k : IntKind} {a : Int} (ha : a.natAbs < 9007199254740992) (h1 : k.min ≤ a) (h2 : a ≤ k.max) (hx : ev e x = some (.float .f64 (fB a))) (hs : P.underlying s = some ds) (hd : P.underlying d = some (.int k)) :
    Runs P e w ⟨dst, .convert s d x, ty, pos, af, gd⟩ (.int k a) w := fun ρ h => by
  have hv : floatToIntVal .f64 (fB a) k = some a := by unfold floatToIntVal; rw [f_toInt ha]; simp [h1, h2]
  have hrun := run_convert_float_int (P := P) w s d .f64 k (fB a) a (by rw [hs]; rfl) hd hv
  simp [execOp, h x _ hx, hrun]
theorem R_real {x : Operand} {t : TypeId} {a b : Nat} (hx : ev e x = some (.complex .f64 a b)) : Runs P e w ⟨dst, .call ⟨.builtin .real, #[x], #[t]⟩, ty, pos, af, gd⟩ (.float .f64 a) w := fun ρ h => by
  have hb : (Builtin.real_ #[t] ty #[.complex .f64 a b]).run P w = .ok (.float .f64 a) w := rfl
  simp [execOp, resolve, h x _ hx, invoke, builtin, hb]
theorem R_imag {x : Operand} {t : TypeId} {a b : Nat} (hx : ev e x = some (.complex .f64 a b)) : Runs P e w ⟨dst, .call ⟨.builtin .imag, #[x], #[t]⟩, ty, pos, af, gd⟩ (.float .f64 b) w := fun ρ h => by
  have hb : (Builtin.imag_ #[t] ty #[.complex .f64 a b]).run P w = .ok (.float .f64 b) w := rfl
  simp [execOp, resolve, h x _ hx, invoke, builtin, hb]
theorem R_complex {x y : Operand} {t u : TypeId} {a b : Nat} (hx : ev e x = some (.float .f64 a)) (hy : ev e y = some (.float .f64 b)) : Runs P e w ⟨dst, .call ⟨.builtin .complex, #[x, y], #[t, u]⟩, ty, pos, af, gd⟩ (.complex .f64 a b) w := fun ρ h => by
  have hb : (Builtin.complex_ #[t, u] ty #[.float .f64 a, .float .f64 b]).run P w = .ok (.complex .f64 a b) w := rfl
  simp [execOp, resolve, h x _ hx, h y _ hy, invoke, builtin, hb]
theorem R_cmul {x y : Operand} {t yt : TypeId} {a b c d : Int} (re im : Int) (h0 : 0 ≤ a ∧ 0 ≤ b ∧ 0 ≤ c ∧ 0 ≤ d) (hre : a * c - b * d = re) (him : a * d + b * c = im)
    (hac : (a * c).natAbs < 9007199254740992) (hbd : (b * d).natAbs < 9007199254740992) (had : (a * d).natAbs < 9007199254740992) (hbc : (b * c).natAbs < 9007199254740992)
    (ha : a.natAbs < 9007199254740992) (hb : b.natAbs < 9007199254740992) (hc : c.natAbs < 9007199254740992) (hd : d.natAbs < 9007199254740992) (hr : re.natAbs < 9007199254740992) (hi : im.natAbs < 9007199254740992)
    (hx : ev e x = some (.complex .f64 (fB a) (fB b))) (hy : ev e y = some (.complex .f64 (fB c) (fB d))) : Runs P e w ⟨dst, .binOp .mul t x y yt, ty, pos, af, gd⟩ (.complex .f64 (fB re) (fB im)) w := fun ρ h => by
  have hm : cMulBits (fB a) (fB b) (fB c) (fB d) = some (fB re, fB im) := by
    have e1 : floatBits .mul .f64 (fB a) (fB c) = some (fB (a * c)) := f_mul h0.1 h0.2.2.1 ha hc hac
    have e2 : floatBits .mul .f64 (fB b) (fB d) = some (fB (b * d)) := f_mul h0.2.1 h0.2.2.2 hb hd hbd
    have e3 : floatBits .sub .f64 (fB (a * c)) (fB (b * d)) = some (fB (a * c - b * d)) := f_sub hac hbd (by rw [hre]; exact hr)
    have e4 : floatBits .mul .f64 (fB a) (fB d) = some (fB (a * d)) := f_mul h0.1 h0.2.2.2 ha hd had
    have e5 : floatBits .mul .f64 (fB b) (fB c) = some (fB (b * c)) := f_mul h0.2.1 h0.2.2.1 hb hc hbc
    have e6 : floatBits .add .f64 (fB (a * d)) (fB (b * c)) = some (fB (a * d + b * c)) := f_add had hbc (by rw [him]; exact hi)
    simp only [cMulBits, e1, e2, e3, e4, e5, e6, Option.bind_some, hre, him]
  have := run_complex_mul (P := P) w t _ _ _ _ _ _ hm
  simp [execOp, h x _ hx, h y _ hy, eqGuard, this]
theorem R_cadd {x y : Operand} {t yt : TypeId} {a b c d : Int} (re im : Int) (hre : a + c = re) (him : b + d = im)
    (ha : a.natAbs < 9007199254740992) (hb : b.natAbs < 9007199254740992) (hc : c.natAbs < 9007199254740992) (hd : d.natAbs < 9007199254740992) (hr : re.natAbs < 9007199254740992) (hi : im.natAbs < 9007199254740992)
    (hx : ev e x = some (.complex .f64 (fB a) (fB b))) (hy : ev e y = some (.complex .f64 (fB c) (fB d))) : Runs P e w ⟨dst, .binOp .add t x y yt, ty, pos, af, gd⟩ (.complex .f64 (fB re) (fB im)) w := fun ρ h => by
  have hm : cSumBits .add .f64 (fB a) (fB b) (fB c) (fB d) = some (fB re, fB im) := by
    have e1 : floatBits .add .f64 (fB a) (fB c) = some (fB re) := by rw [← hre]; exact f_add ha hc (by rw [hre]; exact hr)
    have e2 : floatBits .add .f64 (fB b) (fB d) = some (fB im) := by rw [← him]; exact f_add hb hd (by rw [him]; exact hi)
    simp only [cSumBits, e1, e2, Option.bind_some]
  have := run_complex_sum (P := P) w .add (.inl rfl) t .f64 _ _ _ _ _ _ hm
  simp [execOp, h x _ hx, h y _ hy, eqGuard, this]
/-! ### closures -/
theorem R_makeFunc {f : FuncId} {caps : List Operand} {vs : List Value} (hc : evs e caps = some vs) : Runs P e w ⟨dst, .makeFunc (.func f) #[] caps.toArray, ty, pos, af, gd⟩ (.func (.func f) #[] vs.toArray) w := fun ρ h => by
  have : caps.map ρ = vs := evs_map h hc
  simp [execOp, Instr.makeFunc, this]
theorem EO_callv {x : Operand} {f : FuncId} {caps : List Value} {args : List Operand} {vs : List Value} {d : Tmp} {R : Value → World → Prop} {ats : Array TypeId}
    (hf : Bodied P f = true) (hx : ev e x = some (.func (.func f) #[] caps.toArray)) (ha : evs e args = some vs) (hdn : Nat.blt d n = true) (hc : Ret P f (vs ++ caps) w R)
    (h : ∀ v w', R v w' → K D ((d, v) :: e) w') : EO P n ⟨some d, .call ⟨.value x, args.toArray, ats⟩, ty, pos, af, gd⟩ K D e w := by
  intro a hfit hd Q
  have hargs : args.map a.eval = vs := evs_map (fun x u hx => hfit.eval hx) ha
  have hxx : a.eval x = _ := hfit.eval hx
  have hrun : (execOp a.eval ⟨some d, .call ⟨.value x, args.toArray, ats⟩, ty, pos, af, gd⟩).run P w = .ok (.enter f (vs ++ caps).toArray) w := by
    have hm : args.toArray.map a.eval = vs.toArray := by rw [← hargs]; simp
    simp only [execOp, resolve, hm, hxx, Deferred.ofValue]
    simp [invoke, run_callFunc_bodied hf]
  unfold Oper.wp
  rw [hrun]
  simp only [Oper.upon]
  exact Calls.mono hc fun x w' ⟨v, hx, hv⟩ => by
    subst hx
    exact ⟨_, hfit.put hdn v, by simpa [Act.put, hd] using h v w' hv⟩
/-! ### a string copied into bytes -/
theorem EO_copyStr {x y : Operand} {t st E ct : TypeId} {d : Tmp} {g o dl dc : Nat} {C : Array Value} {l : List UInt8} (hb : Bk w g C ct) (hle : l.length ≤ dl) (hfit : o + l.length ≤ C.size)
    (hx : ev e x = some (.slice (some ⟨g, o, none⟩) dl dc)) (hy : ev e y = some (.string (str l))) (hu : P.underlying t = some (.slice E)) (hs : sizeOfT P E = some 1) (hd : Nat.blt d n = true)
    (h : ∀ w', Upd w w' g (splice C o (l.map fun b => Value.int .u8 (b.toNat : Int)).toArray) ct → K D ((d, .int .i64 (l.length : Int)) :: e) w') :
    EO P n ⟨some d, .call ⟨.builtin .copy, #[x, y], #[t, st]⟩, ty, pos, af, gd⟩ K D e w := by
  have hi : (P.info? E).map (·.size) = some 1 := by
    obtain ⟨i, hi, hi1⟩ := info_of_size hs
    rw [hi]; simp [hi1]
  have hrun := Lib.run_copy_row_string (P := P) w t st ty E g o dl dc (str l) C ct hu hi hb (by rw [str_size]; exact hle) (by rw [str_size]; exact hfit)
  have he : (C.toList.take o ++ Lib.byteCells (str l).data.toList ++ C.toList.drop (o + (str l).size)).toArray = splice C o (l.map fun b => Value.int .u8 (b.toNat : Int)).toArray := by
    rw [str_size]
    simp [splice, str, Lib.byteCells]
  rw [he, str_size] at hrun
  refine EO_val (w' := _) (fun ρ hρ => ?_) rfl hd (h _ (upd_setRow hb))
  simp [execOp, resolve, hρ x _ hx, hρ y _ hy, invoke, builtin, hrun, goInt]
/-! ### results in memory -/
theorem ret_ct {fn : Func} {R : Value → World → Prop} {t u : Tmp} {T : TypeId} {g i : Nat} {cs : Array Value} {v' : Value} {x : Exit} (hx : x = .normal ∨ x = .ret) (hr : fn.results = #[.cell t T, .tmp u]) (ht : lk e t = some (.pointer (some ⟨g, i, none⟩))) (hu : lk e u = some v')
    (hag : aggT P T = some true) (hsz : sizeOfT P T = some cs.size) (hc : Cells w g i cs) (h : R (.tuple #[.agg cs, v']) w) : bodyQ P fn R x [] e w :=
  ⟨hx, rfl, _, fun tmps htm => by
    have hl : (loadCells ⟨g, i, none⟩ cs.toList.length).run P w = .ok cs.toList.toArray w :=
      run_loadCells_list (P := P) w ⟨g, i, none⟩ cs.toList (fun j v hv => by rw [add_none]; exact hc j v (by simpa using hv))
    simp only [Array.length_toList, Array.toArray_toList] at hl
    have h1 := htm t _ ht
    have h2 := htm u _ hu
    simp [results, hr, h1, h2, asAddr, loadVar, run_aggT hag, run_sizeOfT hsz, hl], h⟩
theorem ret_tct {fn : Func} {R : Value → World → Prop} {s t u : Tmp} {T : TypeId} {g i : Nat} {cs : Array Value} {v v' : Value} {x : Exit} (hx : x = .normal ∨ x = .ret) (hr : fn.results = #[.tmp s, .cell t T, .tmp u]) (hs : lk e s = some v) (ht : lk e t = some (.pointer (some ⟨g, i, none⟩))) (hu : lk e u = some v')
    (hag : aggT P T = some true) (hsz : sizeOfT P T = some cs.size) (hc : Cells w g i cs) (h : R (.tuple #[v, .agg cs, v']) w) : bodyQ P fn R x [] e w :=
  ⟨hx, rfl, _, fun tmps htm => by
    have hl : (loadCells ⟨g, i, none⟩ cs.toList.length).run P w = .ok cs.toList.toArray w :=
      run_loadCells_list (P := P) w ⟨g, i, none⟩ cs.toList (fun j v hv => by rw [add_none]; exact hc j v (by simpa using hv))
    simp only [Array.length_toList, Array.toArray_toList] at hl
    have h0 := htm s _ hs
    have h1 := htm t _ ht
    have h2 := htm u _ hu
    simp [results, hr, h0, h1, h2, asAddr, loadVar, run_aggT hag, run_sizeOfT hsz, hl], h⟩
/-! ### scopes -/
def toL (K : Nat → Kont) (Q : Post) : Post
  | .goto l, D, e, w => K l D e w
  | x, D, e, w => Q x D e w
theorem toL_n {K : Nat → Kont} (h : Q .normal D e w) : toL K Q .normal D e w := h
theorem toL_r {K : Nat → Kont} (h : Q .ret D e w) : toL K Q .ret D e w := h
theorem toL_e {K : Nat → Kont} {i : Nat} (h : Q (.exit i) D e w) : toL K Q (.exit i) D e w := h
theorem toL_g {K : Nat → Kont} {l : Nat} (h : K l D e w) : toL K Q (.goto l) D e w := h
/-- a scope: J l m: what holds at a jump to label l, m the measure -/
theorem E_scope {c : Code} (J : Nat → Nat → Env → World → Prop)
    (pass : ∀ l m e w, J l m e w → ∃ rest, findLabel c l = some rest ∧ EWp P n rest (toL (fun l' D' e' w' => D' = D ∧ ∃ m' e0, m' < m ∧ Subs e0 e' ∧ J l' m' e0 w') Q) D e w)
    (first : (∀ l m e w, J l m e w → ∃ rest, findLabel c l = some rest ∧ EWp P n rest (toL (fun l' D' e' w' => D' = D ∧ ∃ m' e0, Subs e0 e' ∧ J l' m' e0 w') Q) D e w) →
      EWp P n c (toL (fun l' D' e' w' => D' = D ∧ ∃ m' e0, Subs e0 e' ∧ J l' m' e0 w') Q) D e w) : EWp P n (.scope c) Q D e w := by
  intro a hf hd b k cs
  have hw : ∀ m0 l m e w, J l m e w → m = m0 → ∀ a, Fits n e a → a.defers = D → ∃ rest, findLabel c l = some rest ∧ ∃ x a' w', lift n Q x a' w' ∧ Arrives P (lone (b.at a (.code rest :: .inScope c :: k)) cs w) b k cs x a' w' := by
    intro m0
    induction m0 using Nat.strongRecOn with
    | _ m0 ih =>
      intro l m e w hJ hm a hf hd
      obtain ⟨rest, hr, hp⟩ := pass l m e w hJ
      refine ⟨rest, hr, ?_⟩
      obtain ⟨x, a₁, w₁, ⟨e₁, hf₁, hq⟩, harr⟩ := hp a hf hd b (.inScope c :: k) cs
      cases x with
      | normal => exact ⟨.normal, a₁, w₁, ⟨e₁, hf₁, hq⟩, Steps.trans harr (.one step_inScope)⟩
      | exit id => exact ⟨.exit id, a₁, w₁, ⟨e₁, hf₁, hq⟩, fun k' hk => harr k' (by simp [exitTo, hk])⟩
      | goto l' =>
        obtain ⟨hd', m', e0, hlt, hs, hJ'⟩ := hq
        obtain ⟨rest', hr', x₂, a₂, w₂, hq₂, harr₂⟩ := ih m' (by omega) l' m' e0 w₁ hJ' rfl a₁ (hf₁.subs hs) hd'
        have hg : gotoIn l' (.inScope c :: k) = some (.code rest' :: .inScope c :: k) := by simp [gotoIn, hr']
        exact ⟨x₂, a₂, w₂, hq₂, .of_steps (harr _ hg) harr₂⟩
      | ret => exact ⟨_, a₁, w₁, ⟨e₁, hf₁, hq⟩, harr⟩
      | panic ch => exact ⟨_, a₁, w₁, ⟨e₁, hf₁, hq⟩, harr⟩
      | outgrown => exact ⟨_, a₁, w₁, ⟨e₁, hf₁, hq⟩, harr⟩
  have hfirst := first fun l m e w hJ => by
    obtain ⟨rest, hr, hp⟩ := pass l m e w hJ
    refine ⟨rest, hr, E_mono (fun x D' e' w' hx => ?_) hp⟩
    cases x with
    | goto l' => obtain ⟨h1, m', e0, _, h3⟩ := hx; exact ⟨h1, m', e0, h3⟩
    | _ => exact hx
  obtain ⟨x, a₁, w₁, ⟨e₁, hf₁, hq⟩, harr⟩ := hfirst a hf hd b (.inScope c :: k) cs
  cases x with
  | normal => exact ⟨.normal, a₁, w₁, ⟨e₁, hf₁, hq⟩, .head step_scope (Steps.trans harr (.one step_inScope))⟩
  | exit id => exact ⟨.exit id, a₁, w₁, ⟨e₁, hf₁, hq⟩, fun k' hk => .head step_scope (harr k' (by simp [exitTo, hk]))⟩
  | goto l' =>
    obtain ⟨hd', m', e0, hs, hJ'⟩ := hq
    obtain ⟨rest', hr', x₂, a₂, w₂, hq₂, harr₂⟩ := hw m' l' m' e0 w₁ hJ' rfl a₁ (hf₁.subs hs) hd'
    have hg : gotoIn l' (.inScope c :: k) = some (.code rest' :: .inScope c :: k) := by simp [gotoIn, hr']
    exact ⟨x₂, a₂, w₂, hq₂, .of_steps (.head step_scope (harr _ hg)) harr₂⟩
  | ret => exact ⟨_, a₁, w₁, ⟨e₁, hf₁, hq⟩, .of_steps (.one step_scope) harr⟩
  | panic ch => exact ⟨_, a₁, w₁, ⟨e₁, hf₁, hq⟩, .of_steps (.one step_scope) harr⟩
  | outgrown => exact ⟨_, a₁, w₁, ⟨e₁, hf₁, hq⟩, .of_steps (.one step_scope) harr⟩
/-- a scope with a label to which the run goes back (la), and one at which it ends (lb) -/
theorem E_scope1 {c X Y : Code} {la lb : Nat} (J : Nat → Env → World → Prop) (Z : Env → World → Prop) (ha : findLabel c la = some (.seq .skip X)) (hb : findLabel c lb = some (.seq .skip Y))
    (back : ∀ m e w, J m e w → EWp P n X (toL (fun l' D' e' w' => D' = D ∧ ((l' = la ∧ ∃ m' e0, m' < m ∧ Subs e0 e' ∧ J m' e0 w') ∨ (l' = lb ∧ ∃ e0, Subs e0 e' ∧ Z e0 w'))) Q) D e w)
    (fwd : ∀ e w, Z e w → EWp P n Y (toL (fun _ _ _ _ => False) Q) D e w)
    (first : (∀ m e w, J m e w → EWp P n X (toL (fun l' D' e' w' => D' = D ∧ ((l' = la ∧ ∃ m' e0, Subs e0 e' ∧ J m' e0 w') ∨ (l' = lb ∧ ∃ e0, Subs e0 e' ∧ Z e0 w'))) Q) D e w) →
      EWp P n c (toL (fun l' D' e' w' => D' = D ∧ ((l' = la ∧ ∃ m' e0, Subs e0 e' ∧ J m' e0 w') ∨ (l' = lb ∧ ∃ e0, Subs e0 e' ∧ Z e0 w'))) Q) D e w) : EWp P n (.scope c) Q D e w := by
  refine E_scope (fun l m e w => (l = la ∧ ∃ m0, m = m0 + 1 ∧ J m0 e w) ∨ (l = lb ∧ m = 0 ∧ Z e w)) ?_ ?_
  · rintro l m e w (⟨rfl, m0, rfl, hJ⟩ | ⟨rfl, rfl, hZ⟩)
    · refine ⟨_, ha, E_seq (E_skip (E_mono (fun x D' e' w' hx => ?_) (back m0 e w hJ)))⟩
      cases x with
      | goto l' =>
        obtain ⟨h1, h2⟩ := hx
        rcases h2 with ⟨rfl, m', e0, hlt, hs, hJ'⟩ | ⟨rfl, e0, hs, hZ⟩
        · exact ⟨h1, m' + 1, e0, by omega, hs, .inl ⟨rfl, m', rfl, hJ'⟩⟩
        · exact ⟨h1, 0, e0, by omega, hs, .inr ⟨rfl, rfl, hZ⟩⟩
      | _ => exact hx
    · refine ⟨_, hb, E_seq (E_skip (E_mono (fun x D' e' w' hx => ?_) (fwd e w hZ)))⟩
      cases x with
      | goto l' => exact hx.elim
      | _ => exact hx
  · intro _
    refine E_mono (fun x D' e' w' hx => ?_) (first fun m e w hJ => E_mono (fun x D' e' w' hx => ?_) (back m e w hJ))
    · cases x with
      | goto l' =>
        obtain ⟨h1, h2⟩ := hx
        rcases h2 with ⟨rfl, m', e0, hs, hJ'⟩ | ⟨rfl, e0, hs, hZ⟩
        · exact ⟨h1, m' + 1, e0, hs, .inl ⟨rfl, m', rfl, hJ'⟩⟩
        · exact ⟨h1, 0, e0, hs, .inr ⟨rfl, rfl, hZ⟩⟩
      | _ => exact hx
    · cases x with
      | goto l' =>
        obtain ⟨h1, h2⟩ := hx
        rcases h2 with ⟨rfl, m', e0, _, hs, hJ'⟩ | h2
        · exact ⟨h1, .inl ⟨rfl, m', e0, hs, hJ'⟩⟩
        · exact ⟨h1, .inr h2⟩
      | _ => exact hx
/-! ### three may come up -/
theorem EA_three {ops : Array Oper} {pr : Props} {fuel : Nat} {listed : Array Bool} (i j k : Nat) {o o' o'' : Oper} (hi : ops[i]? = some o) (hj : ops[j]? = some o') (hk : ops[k]? = some o'') (hr : Region.ready .any ops listed = [i, j, k]) (hg : gdv ops e o.guard = some true) (hg' : gdv ops e o'.guard = some true) (hg'' : gdv ops e o''.guard = some true) (hH : Holds pr listed w)
    (h : EO P n o (EA P n ops pr K fuel (listed.setIfInBounds i true)) D e w) (h' : EO P n o' (EA P n ops pr K fuel (listed.setIfInBounds j true)) D e w) (h'' : EO P n o'' (EA P n ops pr K fuel (listed.setIfInBounds k true)) D e w) : EA P n ops pr K (fuel + 1) listed D e w := by
  refine ⟨hH, fun a hf hd => ⟨fun h0 => (by rw [hr] at h0; cases h0), fun q hq => ?_⟩⟩
  rw [hr] at hq
  rcases (by simpa using hq : q = i ∨ q = j ∨ q = k) with rfl | rfl | rfl
  · unfold wpOp
    simp only [hi]
    rw [if_pos (gdv_wanted hf hg)]
    exact .inl (Oper.wp_mono (fun a' w' ⟨e', hf', hk⟩ => ⟨hk.1, hk.2 a' hf' rfl⟩) (h a hf hd _))
  · unfold wpOp
    simp only [hj]
    rw [if_pos (gdv_wanted hf hg')]
    exact .inl (Oper.wp_mono (fun a' w' ⟨e', hf', hk⟩ => ⟨hk.1, hk.2 a' hf' rfl⟩) (h' a hf hd _))
  · unfold wpOp
    simp only [hk]
    rw [if_pos (gdv_wanted hf hg'')]
    exact .inl (Oper.wp_mono (fun a' w' ⟨e', hf', hk⟩ => ⟨hk.1, hk.2 a' hf' rfl⟩) (h'' a hf hd _))
end
end Go.EW
