/- One rule an operation, over the calculus of XEnv: what an operation yields in a list of slots. -/
import Derived.Test.YtifmdcjncbbcgaaEnv
import Derived.Deep.MidRow
import Derived.Maps.AppendAt
import Derived.Laws.OwnMore
set_option linter.unusedVariables false
set_option linter.unusedSimpArgs false
namespace Go.EW
open Go.RowKit

/-! ### 1. Worlds -/
/-- what was there is as it was, but for the blocks of S -/
structure Mods (S : Nat → Prop) (w w' : World) : Prop where
  os : w'.os = w.os
  tape : w'.tape = w.tape
  output : w'.output = w.output
  size : w.heap.size ≤ w'.heap.size
  keep : ∀ i, i < w.heap.size → ¬ S i → w'.heap[i]? = w.heap[i]?
abbrev No : Nat → Prop := fun _ => False
def Bk (w : World) (g : Nat) (C : Array Value) (t : TypeId) : Prop := w.heap[g]? = some (.cells C t (0, 0))

section
variable {w w' w'' : World} {S S' : Nat → Prop} {g : Nat} {C : Array Value} {t : TypeId}
theorem Mods.refl (S : Nat → Prop) (w : World) : Mods S w w := ⟨rfl, rfl, rfl, Nat.le_refl _, fun _ _ _ => rfl⟩
theorem Mods.trans (h : Mods S w w') (k : Mods S w' w'') : Mods S w w'' :=
  ⟨k.os.trans h.os, k.tape.trans h.tape, k.output.trans h.output, Nat.le_trans h.size k.size, fun i hi hs => (k.keep i (Nat.lt_of_lt_of_le hi h.size) hs).trans (h.keep i hi hs)⟩
theorem Mods.trans' (h : Mods S w w') (k : Mods S' w' w'') (hs : ∀ i, i < w.heap.size → S' i → S i) : Mods S w w'' :=
  ⟨k.os.trans h.os, k.tape.trans h.tape, k.output.trans h.output, Nat.le_trans h.size k.size, fun i hi hn => (k.keep i (Nat.lt_of_lt_of_le hi h.size) (fun hh => hn (hs i hi hh))).trans (h.keep i hi hn)⟩
theorem Mods.mono (h : Mods S w w') (hs : ∀ i, i < w.heap.size → S i → S' i) : Mods S' w w' := ⟨h.os, h.tape, h.output, h.size, fun i hi hn => h.keep i hi fun hh => hn (hs i hi hh)⟩
theorem Mods.no (h : Mods No w w') : Mods S w w' := h.mono fun _ _ hh => hh.elim
theorem Mods.below (h : Mods S w w') {B : Nat} (hB : B ≤ w.heap.size) (hs : ∀ i, i < B → ¬ S i) : Below B w w' := ⟨h.os, h.tape, h.output, h.size, fun i hi => h.keep i (by omega) (hs i hi)⟩
theorem Mods.of_below {B : Nat} (h : Below B w w') : Mods (fun i => B ≤ i) w w' := ⟨h.os, h.tape, h.output, h.size, fun i _ hn => h.block i (by omega)⟩
theorem Mods.no_of_below (h : Below w.heap.size w w') : Mods No w w' := ⟨h.os, h.tape, h.output, h.size, fun i hi _ => h.block i hi⟩
theorem Mods.heap_eq (h : Mods S w w') {o : Obj} (hb : w.heap[g]? = some o) (hn : ¬ S g) : w'.heap[g]? = some o := by
  have hlt : g < w.heap.size := by
    rcases Nat.lt_or_ge g w.heap.size with h | h
    · exact h
    · rw [Array.getElem?_eq_none h] at hb; cases hb
  exact (h.keep g hlt hn).trans hb
theorem Bk.lt (h : Bk w g C t) : g < w.heap.size := by
  rcases Nat.lt_or_ge g w.heap.size with h' | h'
  · exact h'
  · unfold Bk at h; rw [Array.getElem?_eq_none h'] at h; cases h
theorem Mods.bk (h : Mods S w w') (hb : Bk w g C t) (hn : ¬ S g) : Bk w' g C t := h.heap_eq hb hn
theorem Mods.bk' (h : Mods No w w') (hb : Bk w g C t) : Bk w' g C t := h.heap_eq hb id
theorem Mods.cell (h : Mods S w w') {a : Addr} {v : Value} (hc : w.cell? a = some v) (hn : ¬ S a.block) : w'.cell? a = some v :=
  (World.cell?_of_block (h.keep a.block (World.block_lt_of_cell? w a hc) hn)).trans hc
theorem Mods.own (h : Mods S w w') {base : Nat} {e : TypeId} {size : Nat} {v : Value} {n : Nat} {xs : List Value} (ho : w.ownsRow base e size v n xs) (hn : ∀ k, v.ownBlock = some k → ¬ S k) : w'.ownsRow base e size v n xs := by
  refine ⟨ho.1, ?_⟩
  rcases ho.2 with hh | ⟨g, cap, cur, rfl, hb, hgg, rest⟩
  · exact .inl hh
  · exact .inr ⟨g, cap, cur, rfl, hb, h.heap_eq hgg (hn g rfl), rest⟩
theorem Mods.grown {row : Option Nat} (h : w.grownBy w' row) : Mods (fun i => some i = row) w w' := ⟨h.os, h.tape, h.output, h.size, fun i hi hn => h.block i hi hn⟩
theorem Bk.cell (h : Bk w g C t) {i : Nat} {v : Value} (hv : C[i]? = some v) : w.cell? ⟨g, i, none⟩ = some v := by
  rw [cell_of_row w g i C t (0, 0) h]; exact hv
theorem Bk.frozen (h : Bk w g C t) (i : Nat) : w.frozen? ⟨g, i, none⟩ = false := by unfold Bk at h; simp [World.frozen?, h]
theorem Bk.inj {C' : Array Value} {t' : TypeId} (h : Bk w g C t) (h' : Bk w g C' t') : C = C' ∧ t = t' := by
  unfold Bk at h h'; rw [h] at h'; injection h' with h'; injection h' with a b; exact ⟨a, b⟩
theorem Bk.ne {g' : Nat} {C' : Array Value} {t' : TypeId} (h : Bk w g C t) (h' : Bk w g' C' t') (hne : t ≠ t') : g ≠ g' := by
  rintro rfl; exact hne (h.inj h').2

/-- a block changed whole -/
structure Upd (w w' : World) (g : Nat) (C : Array Value) (t : TypeId) : Prop where
  mods : Mods (fun i => i = g) w w'
  bk : Bk w' g C t
  size : w'.heap.size = w.heap.size
/-- a new block -/
structure New (w w' : World) (o : Obj) : Prop where
  mods : Mods No w w'
  at_ : w'.heap[w.heap.size]? = some o
  size : w'.heap.size = w.heap.size + 1
theorem New.bk (h : New w w' (.cells C t)) : Bk w' w.heap.size C t := h.at_
theorem new_alloc (w : World) (o : Obj) : New w (w.alloc o) o := ⟨⟨rfl, rfl, rfl, by simp, fun i hi _ => Below.heap_alloc w o i hi⟩, Go.heap_alloc_new w o, by simp⟩
theorem mods_drew (w : World) : Mods No w w.drew := ⟨rfl, rfl, rfl, Nat.le_refl _, fun _ _ _ => rfl⟩
theorem Mods.drew (h : Mods S w w') : Mods S w w'.drew := ⟨h.os, h.tape, h.output, h.size, h.keep⟩
theorem upd_setCell {i : Nat} (h : Bk w g C t) (v : Value) : Upd w (w.setCell ⟨g, i, none⟩ v) g (C.setIfInBounds i v) t :=
  ⟨⟨rfl, rfl, rfl, by simp, fun k hk hn => heap_setCell_other w _ k v hn⟩, heap_setCell_same w g i C t v h, by simp⟩
end

theorem Upd.trans {w w' w'' : World} {g : Nat} {C C' : Array Value} {t t' : TypeId} (h : Upd w w' g C t) (k : Upd w' w'' g C' t') : Upd w w'' g C' t' := ⟨h.mods.trans k.mods, k.bk, k.size.trans h.size⟩

/-- a pointer to a block's beginning -/
abbrev ptr (d : Nat) : Value := .pointer (some ⟨d, 0, none⟩)
/-! ### 2. What an operation yields -/
/-- in whatever frame that bears these slots, o runs to v and w' -/
def Runs (P : Program) (e : Env) (w : World) (o : Oper) (v : Value) (w' : World) : Prop :=
  ∀ ρ : Operand → Value, (∀ x u, ev e x = some u → ρ x = u) → (execOp ρ o).run P w = .ok (.value v) w'
/-- likewise, with nothing yielded -/
def Does (P : Program) (e : Env) (w : World) (o : Oper) (w' : World) : Prop :=
  ∀ ρ : Operand → Value, (∀ x u, ev e x = some u → ρ x = u) → (execOp ρ o).run P w = .ok .skip w'

def sizeOfT (P : Program) (t : TypeId) : Option Nat := (P.info? t).map (·.size)
def bytesOfT (P : Program) (t : TypeId) : Option Nat := (P.info? t).map (·.bytes)
def zeroOfT (P : Program) (t : TypeId) : Option Value := (P.info? t).bind (·.zero)
def aggT (P : Program) (t : TypeId) : Option Bool := (P.underlying t).map (·.isRow)
def fieldT (P : Program) (s : TypeId) (f : Nat) : Option Nat :=
  match P.underlying s with
  | some (.struct fs) => match fs[f]? with
    | some fl => match sizeOfT P fl.type with
      | some 0 => none
      | some _ => some fl.offset
      | none => none
    | none => none
  | _ => none

section
variable {P : Program} {e : Env} {w : World} {dst : Option Tmp} {ty : TypeId} {pos : String} {af : Array Edge} {gd : Option (Nat × Bool)}

theorem run_info {t : TypeId} {i : TypeInfo} (h : P.info? t = some i) (w : World) : (typeInfo t).run P w = .ok i w := by simp [typeInfo, h]
theorem info_of_size {t : TypeId} {n : Nat} (h : sizeOfT P t = some n) : ∃ i, P.info? t = some i ∧ i.size = n := by
  unfold sizeOfT at h
  cases hi : P.info? t with
  | none => simp [hi] at h
  | some i => exact ⟨i, rfl, by simpa [hi] using h⟩
theorem run_sizeOfT {t : TypeId} {n : Nat} (h : sizeOfT P t = some n) (w : World) : (sizeOf t).run P w = .ok n w := by
  obtain ⟨i, hi, rfl⟩ := info_of_size h
  simp [sizeOf, run_info hi]
theorem run_zeroOfT {t : TypeId} {z : Value} (h : zeroOfT P t = some z) (w : World) : (zeroValue t).run P w = .ok z w := by
  unfold zeroOfT at h
  cases hi : P.info? t with
  | none => simp [hi] at h
  | some i => simp [hi] at h; simp [zeroValue, run_info hi, h]
theorem run_aggT {t : TypeId} {b : Bool} (h : aggT P t = some b) (w : World) : (isAgg t).run P w = .ok b w := by
  unfold aggT at h
  cases hu : P.underlying t with
  | none => simp [hu] at h
  | some d =>
    simp [hu] at h
    unfold isAgg
    rw [Sem.run_bind, run_underlying hu w]
    subst h
    cases d <;> simp [TypeDesc.isRow]
theorem add_none (g i k : Nat) : (⟨g, i, none⟩ : Addr).add k = ⟨g, i + k, none⟩ := Addr.add_mid g i k

theorem R_move {x : Operand} {v : Value} (hx : ev e x = some v) : Runs P e w ⟨dst, .move x, ty, pos, af, gd⟩ v w := fun ρ h => by
  simp [execOp, h x v hx]
theorem R_assign {x : Operand} {v : Value} (hx : ev e x = some v) : Runs P e w ⟨dst, .assign x, ty, pos, af, gd⟩ v w := fun ρ h => by
  simp [execOp, h x v hx]
theorem R_pick_t {c x y : Operand} {v : Value} (hc : ev e c = some (.bool true)) (hx : ev e x = some v) : Runs P e w ⟨dst, .pick c x y, ty, pos, af, gd⟩ v w := fun ρ h => by
  simp [execOp, h c _ hc, h x v hx, asBool]
theorem R_pick_f {c x y : Operand} {v : Value} (hc : ev e c = some (.bool false)) (hx : ev e y = some v) : Runs P e w ⟨dst, .pick c x y, ty, pos, af, gd⟩ v w := fun ρ h => by
  simp [execOp, h c _ hc, h y v hx, asBool]
theorem R_nilCheck {x : Operand} {a : Addr} (hx : ev e x = some (.pointer (some a))) : Runs P e w ⟨dst, .nilCheck x, ty, pos, af, gd⟩ (.pointer (some a)) w := fun ρ h => by
  simp [execOp, h x _ hx]
theorem R_fieldAddr {x : Operand} {s : TypeId} {f g i off : Nat} (hx : ev e x = some (.pointer (some ⟨g, i, none⟩))) (hf : fieldT P s f = some off) :
    Runs P e w ⟨dst, .fieldAddr s x f, ty, pos, af, gd⟩ (.pointer (some ⟨g, i + off, none⟩)) w := fun ρ h => by
  unfold fieldT at hf
  split at hf
  · rename_i fs hs
    split at hf
    · rename_i fl hfl
      split at hf
      · cases hf
      · rename_i m hm0 hm
        injection hf with hf
        subst hf
        have hne : m ≠ 0 := fun h0 => hm0 h0
        simp [execOp, h x _ hx, Instr.fieldAt, run_underlying hs, hfl, Instr.sureAddr, fieldPlace, run_sizeOfT hm, hne, add_none]
      · cases hf
    · cases hf
  · cases hf
theorem R_indexAddr {x y : Operand} {t E : TypeId} {k : IntKind} {g i len cap s m : Nat} {j : Int} (hx : ev e x = some (.slice (some ⟨g, i, none⟩) len cap)) (hy : ev e y = some (.int k j))
    (hu : P.underlying t = some (.slice E)) (hs : sizeOfT P E = some s) (hj : j = (m : Int)) (hm : m < len) :
    Runs P e w ⟨dst, .indexAddr t x y, ty, pos, af, gd⟩ (.pointer (some ⟨g, i + m * s, none⟩)) w := fun ρ h => by
  subst hj
  simp [execOp, h x _ hx, h y _ hy, Instr.indexAt, asIntOf, run_underlying hu, run_sizeOfT hs, add_none, hm]
theorem R_indexAddrArr {x y : Operand} {t E : TypeId} {k : IntKind} {g i len s m : Nat} {j : Int} (hx : ev e x = some (.pointer (some ⟨g, i, none⟩))) (hy : ev e y = some (.int k j))
    (hu : P.underlying t = some (.array len E)) (hs : sizeOfT P E = some s) (hj : j = (m : Int)) (hm : m < len) :
    Runs P e w ⟨dst, .indexAddr t x y, ty, pos, af, gd⟩ (.pointer (some ⟨g, i + m * s, none⟩)) w := fun ρ h => by
  subst hj
  simp [execOp, h x _ hx, h y _ hy, Instr.indexAt, asIntOf, run_underlying hu, Instr.sureAddr, run_sizeOfT hs, add_none, hm]
theorem R_load {x : Operand} {t : TypeId} {a : Addr} {v : Value} (hx : ev e x = some (.pointer (some a))) (ht : aggT P t = some false) (hc : w.cell? a = some v) :
    Runs P e w ⟨dst, .load t x, ty, pos, af, gd⟩ v w := fun ρ h => by
  simp [execOp, h x _ hx, Instr.loadAt, Instr.sureAddr, loadVar, run_aggT ht, hc]
/-- n cells from offset i on of block g -/
def Cells (w : World) (g i : Nat) (cs : Array Value) : Prop := ∀ j v, cs[j]? = some v → w.cell? ⟨g, i + j, none⟩ = some v
theorem R_loadAgg {x : Operand} {t : TypeId} {g i : Nat} {cs : Array Value} (hx : ev e x = some (.pointer (some ⟨g, i, none⟩))) (ht : aggT P t = some true)
    (hc : Cells w g i cs) (hs : sizeOfT P t = some cs.size) : Runs P e w ⟨dst, .load t x, ty, pos, af, gd⟩ (.agg cs) w := fun ρ h => by
  have hl : (loadCells ⟨g, i, none⟩ cs.toList.length).run P w = .ok cs.toList.toArray w :=
    run_loadCells_list (P := P) w ⟨g, i, none⟩ cs.toList (fun j v hv => by rw [add_none]; exact hc j v (by simpa using hv))
  simp only [Array.length_toList, Array.toArray_toList] at hl
  simp [execOp, h x _ hx, Instr.loadAt, Instr.sureAddr, loadVar, run_aggT ht, run_sizeOfT hs, hl]
theorem Bk.cells {g : Nat} {C : Array Value} {t : TypeId} (h : Bk w g C t) (i : Nat) (cs : Array Value) (hcs : ∀ j v, cs[j]? = some v → C[i + j]? = some v) : Cells w g i cs := fun j v hv => h.cell (hcs j v hv)
theorem Mods.cells {S : Nat → Prop} {w' : World} (h : Mods S w w') {g i : Nat} {cs : Array Value} (hc : Cells w g i cs) (hn : ¬ S g) : Cells w' g i cs := fun j v hv => h.cell (hc j v hv) hn

/-! whole numbers -/
theorem R_lss {x y : Operand} {t yt : TypeId} {k : IntKind} {a b : Int} (hx : ev e x = some (.int k a)) (hy : ev e y = some (.int k b)) : Runs P e w ⟨dst, .binOp .lss t x y yt, ty, pos, af, gd⟩ (.bool (decide (a < b))) w := fun ρ h => by
  simp [execOp, h x _ hx, h y _ hy, eqGuard, binOp, Op.intCmp]
theorem R_leq {x y : Operand} {t yt : TypeId} {k : IntKind} {a b : Int} (hx : ev e x = some (.int k a)) (hy : ev e y = some (.int k b)) : Runs P e w ⟨dst, .binOp .leq t x y yt, ty, pos, af, gd⟩ (.bool (decide (a ≤ b))) w := fun ρ h => by
  simp [execOp, h x _ hx, h y _ hy, eqGuard, binOp, Op.intCmp]
theorem R_gtr {x y : Operand} {t yt : TypeId} {k : IntKind} {a b : Int} (hx : ev e x = some (.int k a)) (hy : ev e y = some (.int k b)) : Runs P e w ⟨dst, .binOp .gtr t x y yt, ty, pos, af, gd⟩ (.bool (decide (b < a))) w := fun ρ h => by
  simp [execOp, h x _ hx, h y _ hy, eqGuard, binOp, Op.intCmp]
theorem R_geq {x y : Operand} {t yt : TypeId} {k : IntKind} {a b : Int} (hx : ev e x = some (.int k a)) (hy : ev e y = some (.int k b)) : Runs P e w ⟨dst, .binOp .geq t x y yt, ty, pos, af, gd⟩ (.bool (decide (b ≤ a))) w := fun ρ h => by
  simp [execOp, h x _ hx, h y _ hy, eqGuard, binOp, Op.intCmp]
theorem R_eql {x y : Operand} {t yt : TypeId} {k : IntKind} {a b : Int} (hx : ev e x = some (.int k a)) (hy : ev e y = some (.int k b)) : Runs P e w ⟨dst, .binOp .eql t x y yt, ty, pos, af, gd⟩ (.bool (decide (a = b))) w := fun ρ h => by
  have : (a == b) = decide (a = b) := by rw [Bool.eq_iff_iff]; simp
  simp [execOp, h x _ hx, h y _ hy, eqGuard, binOp, Op.intCmp, this]
theorem R_neq {x y : Operand} {t yt : TypeId} {k : IntKind} {a b : Int} (hx : ev e x = some (.int k a)) (hy : ev e y = some (.int k b)) : Runs P e w ⟨dst, .binOp .neq t x y yt, ty, pos, af, gd⟩ (.bool (decide (a ≠ b))) w := fun ρ h => by
  have : (a != b) = decide (a ≠ b) := by rw [Bool.eq_iff_iff]; simp
  simp [execOp, h x _ hx, h y _ hy, eqGuard, binOp, Op.intCmp, this]
theorem R_add {x y : Operand} {t yt : TypeId} {k : IntKind} {a b : Int} (hx : ev e x = some (.int k a)) (hy : ev e y = some (.int k b)) : Runs P e w ⟨dst, .binOp .add t x y yt, ty, pos, af, gd⟩ (.int k (k.wrap (a + b))) w := fun ρ h => by
  simp [execOp, h x _ hx, h y _ hy, eqGuard, binOp, Op.intArith]
theorem R_sub {x y : Operand} {t yt : TypeId} {k : IntKind} {a b : Int} (hx : ev e x = some (.int k a)) (hy : ev e y = some (.int k b)) : Runs P e w ⟨dst, .binOp .sub t x y yt, ty, pos, af, gd⟩ (.int k (k.wrap (a - b))) w := fun ρ h => by
  simp [execOp, h x _ hx, h y _ hy, eqGuard, binOp, Op.intArith]
theorem R_mul {x y : Operand} {t yt : TypeId} {k : IntKind} {a b : Int} (hx : ev e x = some (.int k a)) (hy : ev e y = some (.int k b)) : Runs P e w ⟨dst, .binOp .mul t x y yt, ty, pos, af, gd⟩ (.int k (k.wrap (a * b))) w := fun ρ h => by
  simp [execOp, h x _ hx, h y _ hy, eqGuard, binOp, Op.intArith]
theorem R_extract {x : Operand} {i : Nat} {vs : Array Value} {v : Value} (hx : ev e x = some (.tuple vs)) (hi : vs[i]? = some v) : Runs P e w ⟨dst, .extract x i, ty, pos, af, gd⟩ v w := fun ρ h => by
  simp [execOp, h x _ hx, Instr.extract, hi]
/-! lengths, the least, the greatest -/
theorem R_lenSlice {x : Operand} {t E : TypeId} {a : Option Addr} {len cap : Nat} (hx : ev e x = some (.slice a len cap)) (hu : P.underlying t = some (.slice E)) :
    Runs P e w ⟨dst, .call ⟨.builtin .len, #[x], #[t]⟩, ty, pos, af, gd⟩ (.int .i64 (len : Int)) w := fun ρ h => by
  simp [execOp, resolve, h x _ hx, invoke, builtin, Builtin.len_, run_underlying hu, goInt]
theorem R_lenString {x : Operand} {t : TypeId} {s : ByteArray} (hx : ev e x = some (.string s)) (hu : P.underlying t = some .string) :
    Runs P e w ⟨dst, .call ⟨.builtin .len, #[x], #[t]⟩, ty, pos, af, gd⟩ (.int .i64 (s.size : Int)) w := fun ρ h => by
  simp [execOp, resolve, h x _ hx, invoke, builtin, Builtin.len_, run_underlying hu, goInt]
theorem R_min {x y : Operand} {t : TypeId} {a b : Int} (hx : ev e x = some (.int .i64 a)) (hy : ev e y = some (.int .i64 b)) :
    Runs P e w ⟨dst, .call ⟨.builtin .min, #[x, y], #[t, t]⟩, ty, pos, af, gd⟩ (.int .i64 (if b < a then b else a)) w := fun ρ h => by
  simp [execOp, resolve, h x _ hx, h y _ hy, invoke, builtin, Builtin.min_, Builtin.min2]
theorem R_max {x y : Operand} {t : TypeId} {a b : Int} (hx : ev e x = some (.int .i64 a)) (hy : ev e y = some (.int .i64 b)) :
    Runs P e w ⟨dst, .call ⟨.builtin .max, #[x, y], #[t, t]⟩, ty, pos, af, gd⟩ (.int .i64 (if a < b then b else a)) w := fun ρ h => by
  simp [execOp, resolve, h x _ hx, h y _ hy, invoke, builtin, Builtin.max_, Builtin.max2]
theorem R_minE {x y : Operand} {t : TypeId} {a b : Int} (r : Int) (hr : (if b < a then b else a) = r) (hx : ev e x = some (.int .i64 a)) (hy : ev e y = some (.int .i64 b)) :
    Runs P e w ⟨dst, .call ⟨.builtin .min, #[x, y], #[t, t]⟩, ty, pos, af, gd⟩ (.int .i64 r) w := hr ▸ R_min hx hy
theorem R_maxE {x y : Operand} {t : TypeId} {a b : Int} (r : Int) (hr : (if a < b then b else a) = r) (hx : ev e x = some (.int .i64 a)) (hy : ev e y = some (.int .i64 b)) :
    Runs P e w ⟨dst, .call ⟨.builtin .max, #[x, y], #[t, t]⟩, ty, pos, af, gd⟩ (.int .i64 r) w := hr ▸ R_max hx hy
theorem R_not {x : Operand} {t : TypeId} {b : Bool} (hx : ev e x = some (.bool b)) : Runs P e w ⟨dst, .unOp .not t x, ty, pos, af, gd⟩ (.bool (!b)) w := fun ρ h => by
  simp [execOp, h x _ hx, Op.unary]
theorem R_neg {x : Operand} {t : TypeId} {k : IntKind} {a : Int} (hx : ev e x = some (.int k a)) : Runs P e w ⟨dst, .unOp .neg t x, ty, pos, af, gd⟩ (.int k (k.wrap (0 - a))) w := fun ρ h => by
  simp [execOp, h x _ hx, Op.unary, Op.intArith]
/-! whole numbers, within bounds -/
theorem wrap_i64_in {n : Int} (h1 : -9223372036854775808 ≤ n) (h2 : n ≤ 9223372036854775807) : IntKind.i64.wrap n = n := by
  rw [IntKind.wrap_i64]; omega
theorem R_add_in {x y : Operand} {t yt : TypeId} {a b : Int} (hx : ev e x = some (.int .i64 a)) (hy : ev e y = some (.int .i64 b)) (h1 : -9223372036854775808 ≤ a + b) (h2 : a + b ≤ 9223372036854775807) :
    Runs P e w ⟨dst, .binOp .add t x y yt, ty, pos, af, gd⟩ (.int .i64 (a + b)) w := by have := R_add (P := P) (w := w) (dst := dst) (t := t) (yt := yt) (ty := ty) (pos := pos) (af := af) (gd := gd) hx hy; rwa [wrap_i64_in h1 h2] at this
theorem R_sub_in {x y : Operand} {t yt : TypeId} {a b : Int} (hx : ev e x = some (.int .i64 a)) (hy : ev e y = some (.int .i64 b)) (h1 : -9223372036854775808 ≤ a - b) (h2 : a - b ≤ 9223372036854775807) :
    Runs P e w ⟨dst, .binOp .sub t x y yt, ty, pos, af, gd⟩ (.int .i64 (a - b)) w := by have := R_sub (P := P) (w := w) (dst := dst) (t := t) (yt := yt) (ty := ty) (pos := pos) (af := af) (gd := gd) hx hy; rwa [wrap_i64_in h1 h2] at this
theorem R_mul_in {x y : Operand} {t yt : TypeId} {a b : Int} (hx : ev e x = some (.int .i64 a)) (hy : ev e y = some (.int .i64 b)) (h1 : -9223372036854775808 ≤ a * b) (h2 : a * b ≤ 9223372036854775807) :
    Runs P e w ⟨dst, .binOp .mul t x y yt, ty, pos, af, gd⟩ (.int .i64 (a * b)) w := by have := R_mul (P := P) (w := w) (dst := dst) (t := t) (yt := yt) (ty := ty) (pos := pos) (af := af) (gd := gd) hx hy; rwa [wrap_i64_in h1 h2] at this
theorem R_addE {x y : Operand} {t yt : TypeId} {a b : Int} (r : Int) (hx : ev e x = some (.int .i64 a)) (hy : ev e y = some (.int .i64 b)) (hr : a + b = r) (h1 : -9223372036854775808 ≤ r) (h2 : r ≤ 9223372036854775807) :
    Runs P e w ⟨dst, .binOp .add t x y yt, ty, pos, af, gd⟩ (.int .i64 r) w := by subst hr; exact R_add_in hx hy h1 h2
theorem R_subE {x y : Operand} {t yt : TypeId} {a b : Int} (r : Int) (hx : ev e x = some (.int .i64 a)) (hy : ev e y = some (.int .i64 b)) (hr : a - b = r) (h1 : -9223372036854775808 ≤ r) (h2 : r ≤ 9223372036854775807) :
    Runs P e w ⟨dst, .binOp .sub t x y yt, ty, pos, af, gd⟩ (.int .i64 r) w := by subst hr; exact R_sub_in hx hy h1 h2
theorem R_mulE {x y : Operand} {t yt : TypeId} {a b : Int} (r : Int) (hx : ev e x = some (.int .i64 a)) (hy : ev e y = some (.int .i64 b)) (hr : a * b = r) (h1 : -9223372036854775808 ≤ r) (h2 : r ≤ 9223372036854775807) :
    Runs P e w ⟨dst, .binOp .mul t x y yt, ty, pos, af, gd⟩ (.int .i64 r) w := by subst hr; exact R_mul_in hx hy h1 h2
/-- a + 1 at a counter -/
theorem R_inc {x : Operand} {t yt : TypeId} {k : Nat} (hx : ev e x = some (.int .i64 (k : Int))) (h2 : k < 9223372036854775807) :
    Runs P e w ⟨dst, .binOp .add t x (.const (.int .i64 1)) yt, ty, pos, af, gd⟩ (.int .i64 ((k + 1 : Nat) : Int)) w := by
  have := R_add_in (P := P) (w := w) (dst := dst) (t := t) (yt := yt) (ty := ty) (pos := pos) (af := af) (gd := gd) hx (y := .const (.int .i64 1)) (b := 1) rfl (by omega) (by omega)
  simpa using this
/-! whole numbers, decided -/
section
variable {x y : Operand} {t yt : TypeId} {k : IntKind} {a b : Int}
theorem R_lss_t (hx : ev e x = some (.int k a)) (hy : ev e y = some (.int k b)) (h : a < b) : Runs P e w ⟨dst, .binOp .lss t x y yt, ty, pos, af, gd⟩ (.bool true) w := by have := R_lss (P := P) (w := w) (dst := dst) (t := t) (yt := yt) (ty := ty) (pos := pos) (af := af) (gd := gd) hx hy; rwa [decide_eq_true h] at this
theorem R_lss_f (hx : ev e x = some (.int k a)) (hy : ev e y = some (.int k b)) (h : ¬ a < b) : Runs P e w ⟨dst, .binOp .lss t x y yt, ty, pos, af, gd⟩ (.bool false) w := by have := R_lss (P := P) (w := w) (dst := dst) (t := t) (yt := yt) (ty := ty) (pos := pos) (af := af) (gd := gd) hx hy; rwa [decide_eq_false h] at this
theorem R_leq_t (hx : ev e x = some (.int k a)) (hy : ev e y = some (.int k b)) (h : a ≤ b) : Runs P e w ⟨dst, .binOp .leq t x y yt, ty, pos, af, gd⟩ (.bool true) w := by have := R_leq (P := P) (w := w) (dst := dst) (t := t) (yt := yt) (ty := ty) (pos := pos) (af := af) (gd := gd) hx hy; rwa [decide_eq_true h] at this
theorem R_leq_f (hx : ev e x = some (.int k a)) (hy : ev e y = some (.int k b)) (h : ¬ a ≤ b) : Runs P e w ⟨dst, .binOp .leq t x y yt, ty, pos, af, gd⟩ (.bool false) w := by have := R_leq (P := P) (w := w) (dst := dst) (t := t) (yt := yt) (ty := ty) (pos := pos) (af := af) (gd := gd) hx hy; rwa [decide_eq_false h] at this
theorem R_gtr_t (hx : ev e x = some (.int k a)) (hy : ev e y = some (.int k b)) (h : b < a) : Runs P e w ⟨dst, .binOp .gtr t x y yt, ty, pos, af, gd⟩ (.bool true) w := by have := R_gtr (P := P) (w := w) (dst := dst) (t := t) (yt := yt) (ty := ty) (pos := pos) (af := af) (gd := gd) hx hy; rwa [decide_eq_true h] at this
theorem R_gtr_f (hx : ev e x = some (.int k a)) (hy : ev e y = some (.int k b)) (h : ¬ b < a) : Runs P e w ⟨dst, .binOp .gtr t x y yt, ty, pos, af, gd⟩ (.bool false) w := by have := R_gtr (P := P) (w := w) (dst := dst) (t := t) (yt := yt) (ty := ty) (pos := pos) (af := af) (gd := gd) hx hy; rwa [decide_eq_false h] at this
theorem R_geq_t (hx : ev e x = some (.int k a)) (hy : ev e y = some (.int k b)) (h : b ≤ a) : Runs P e w ⟨dst, .binOp .geq t x y yt, ty, pos, af, gd⟩ (.bool true) w := by have := R_geq (P := P) (w := w) (dst := dst) (t := t) (yt := yt) (ty := ty) (pos := pos) (af := af) (gd := gd) hx hy; rwa [decide_eq_true h] at this
theorem R_geq_f (hx : ev e x = some (.int k a)) (hy : ev e y = some (.int k b)) (h : ¬ b ≤ a) : Runs P e w ⟨dst, .binOp .geq t x y yt, ty, pos, af, gd⟩ (.bool false) w := by have := R_geq (P := P) (w := w) (dst := dst) (t := t) (yt := yt) (ty := ty) (pos := pos) (af := af) (gd := gd) hx hy; rwa [decide_eq_false h] at this
theorem R_eql_t (hx : ev e x = some (.int k a)) (hy : ev e y = some (.int k b)) (h : a = b) : Runs P e w ⟨dst, .binOp .eql t x y yt, ty, pos, af, gd⟩ (.bool true) w := by have := R_eql (P := P) (w := w) (dst := dst) (t := t) (yt := yt) (ty := ty) (pos := pos) (af := af) (gd := gd) hx hy; rwa [decide_eq_true h] at this
theorem R_eql_f (hx : ev e x = some (.int k a)) (hy : ev e y = some (.int k b)) (h : ¬ a = b) : Runs P e w ⟨dst, .binOp .eql t x y yt, ty, pos, af, gd⟩ (.bool false) w := by have := R_eql (P := P) (w := w) (dst := dst) (t := t) (yt := yt) (ty := ty) (pos := pos) (af := af) (gd := gd) hx hy; rwa [decide_eq_false h] at this
theorem R_neq_t (hx : ev e x = some (.int k a)) (hy : ev e y = some (.int k b)) (h : a ≠ b) : Runs P e w ⟨dst, .binOp .neq t x y yt, ty, pos, af, gd⟩ (.bool true) w := by have := R_neq (P := P) (w := w) (dst := dst) (t := t) (yt := yt) (ty := ty) (pos := pos) (af := af) (gd := gd) hx hy; rwa [decide_eq_true h] at this
theorem R_neq_f (hx : ev e x = some (.int k a)) (hy : ev e y = some (.int k b)) (h : ¬ a ≠ b) : Runs P e w ⟨dst, .binOp .neq t x y yt, ty, pos, af, gd⟩ (.bool false) w := by have := R_neq (P := P) (w := w) (dst := dst) (t := t) (yt := yt) (ty := ty) (pos := pos) (af := af) (gd := gd) hx hy; rwa [decide_eq_false h] at this
end
/-! division, conversion -/
theorem R_remE {x y : Operand} {t yt : TypeId} {k : IntKind} {a b : Int} (r : Int) (h0 : 0 ≤ a) (hb : 0 < b) (hr : a % b = r) (hx : ev e x = some (.int k a)) (hy : ev e y = some (.int k b)) : Runs P e w ⟨dst, .binOp .rem t x y yt, ty, pos, af, gd⟩ (.int k r) w := fun ρ h => by
  have hne : b ≠ 0 := by omega
  subst hr
  rw [← Int.tmod_eq_emod_of_nonneg h0]
  simp [execOp, h x _ hx, h y _ hy, eqGuard, binOp, Op.intDiv, hne]
theorem R_quoE {x y : Operand} {t yt : TypeId} {k : IntKind} {a b : Int} (r : Int) (h0 : 0 ≤ a) (hb : 0 < b) (hr : a / b = r) (hw : k.wrap r = r) (hx : ev e x = some (.int k a)) (hy : ev e y = some (.int k b)) : Runs P e w ⟨dst, .binOp .quo t x y yt, ty, pos, af, gd⟩ (.int k r) w := fun ρ h => by
  have hne : b ≠ 0 := by omega
  have ht : a.tdiv b = r := by rw [Int.tdiv_eq_ediv_of_nonneg h0]; exact hr
  simp [execOp, h x _ hx, h y _ hy, eqGuard, binOp, Op.intDiv, hne, ht, hw]
theorem R_convInt {x : Operand} {s d : TypeId} {ds : TypeDesc} {k k' : IntKind} {a : Int} (r : Int) (hr : k.wrap a = r) (hx : ev e x = some (.int k' a)) (hs : P.underlying s = some ds) (hd : P.underlying d = some (.int k)) :
    Runs P e w ⟨dst, .convert s d x, ty, pos, af, gd⟩ (.int k r) w := fun ρ h => by
  simp [execOp, h x _ hx, convert, run_underlying hs, run_underlying hd, Conv.intToInt, hr]
/-! pointers and slices against nil -/
theorem run_equal_of {t : TypeId} {x y : Value} {b : Bool} (h : ∀ d, (Op.equalIn (d + 1) t x y).run P w = .ok b w) : (Op.equal t x y).run P w = .ok b w := h 9999
theorem run_eqGuard_ptr {op : BinOp} {t : TypeId} {x y : Operand} {a b : Option Addr} : (eqGuard op t x y (.pointer a) (.pointer b)).run P w = .ok () w := by
  unfold eqGuard; split <;> rfl
theorem run_eqGuard_slice {op : BinOp} {t : TypeId} {x y : Operand} {a b : Option Addr} {n c m d : Nat} : (eqGuard op t x y (.slice a n c) (.slice b m d)).run P w = .ok () w := by
  unfold eqGuard; split <;> rfl
theorem R_eqlPtrNil {x : Operand} {t E yt : TypeId} {a : Option Addr} (hx : ev e x = some (.pointer a)) (hu : P.underlying t = some (.pointer E)) :
    Runs P e w ⟨dst, .binOp .eql t x (.const (.pointer none)) yt, ty, pos, af, gd⟩ (.bool a.isNone) w := fun ρ h => by
  have he : (Op.equal t (.pointer a) (.pointer none)).run P w = .ok a.isNone w := run_equal_of fun d => by
    cases a <;> simp [Op.equalIn, run_underlying hu]
  have hb : (binOp .eql t (.pointer a) (.pointer none)).run P w = .ok (.bool a.isNone) w := by simp only [binOp, Sem.run_bind, he, Result.andThen_ok, Sem.run_pure]
  simp only [execOp, h x _ hx, h _ _ (show ev e (.const (.pointer none)) = _ from rfl), Sem.run_bind, run_eqGuard_ptr, Result.andThen_ok, hb, Sem.run_pure]
theorem R_neqPtrNil {x : Operand} {t E yt : TypeId} {a : Option Addr} (hx : ev e x = some (.pointer a)) (hu : P.underlying t = some (.pointer E)) :
    Runs P e w ⟨dst, .binOp .neq t x (.const (.pointer none)) yt, ty, pos, af, gd⟩ (.bool a.isSome) w := fun ρ h => by
  have he : (Op.equal t (.pointer a) (.pointer none)).run P w = .ok a.isNone w := run_equal_of fun d => by
    cases a <;> simp [Op.equalIn, run_underlying hu]
  have hb : (binOp .neq t (.pointer a) (.pointer none)).run P w = .ok (.bool a.isSome) w := by
    simp only [binOp, Sem.run_bind, he, Result.andThen_ok, Sem.run_pure]
    cases a <;> rfl
  simp only [execOp, h x _ hx, h _ _ (show ev e (.const (.pointer none)) = _ from rfl), Sem.run_bind, run_eqGuard_ptr, Result.andThen_ok, hb, Sem.run_pure]
theorem R_eqlSliceNil {x : Operand} {t E yt : TypeId} {a : Option Addr} {n c : Nat} (hx : ev e x = some (.slice a n c)) (hu : P.underlying t = some (.slice E)) :
    Runs P e w ⟨dst, .binOp .eql t x (.const (.slice none 0 0)) yt, ty, pos, af, gd⟩ (.bool a.isNone) w := fun ρ h => by
  have he : (Op.equal t (.slice a n c) (.slice none 0 0)).run P w = .ok a.isNone w := run_equal_of fun d => by
    cases a <;> simp [Op.equalIn, run_underlying hu]
  have hb : (binOp .eql t (.slice a n c) (.slice none 0 0)).run P w = .ok (.bool a.isNone) w := by simp only [binOp, Sem.run_bind, he, Result.andThen_ok, Sem.run_pure]
  simp only [execOp, h x _ hx, h _ _ (show ev e (.const (.slice none 0 0)) = _ from rfl), Sem.run_bind, run_eqGuard_slice, Result.andThen_ok, hb, Sem.run_pure]
/-! arrays as slices, slices as arrays -/
theorem R_sliceArr {x : Operand} {t E : TypeId} {g i n s : Nat} (hx : ev e x = some (.pointer (some ⟨g, i, none⟩))) (hu : P.underlying t = some (.array n E)) (hs : sizeOfT P E = some s) :
    Runs P e w ⟨dst, .slice t x none none none, ty, pos, af, gd⟩ (.slice (some ⟨g, i, none⟩) n n) w := fun ρ h => by
  have h0 : (⟨g, i, none⟩ : Addr).add 0 = ⟨g, i, none⟩ := by simp [Addr.add]
  simp [execOp, h x _ hx, Instr.sliceAt, run_underlying hu, Instr.sureAddr, Instr.sliceBounds, run_sizeOfT hs, h0]
theorem R_arrPtr {x : Operand} {t E : TypeId} {a : Option Addr} {n len cap : Nat} (hx : ev e x = some (.slice a len cap)) (hu : P.underlying t = some (.array n E)) (hn : n ≤ len) :
    Runs P e w ⟨dst, .sliceToArrayPointer t x, ty, pos, af, gd⟩ (.pointer a) w := fun ρ h => by
  simp [execOp, h x _ hx, Instr.arrayAt, run_underlying hu, Nat.not_lt.2 hn]
/-! structs and arrays built -/
def placesT (P : Program) (t : TypeId) : Option (Array (Nat × Nat)) := match P.underlying t with
  | some (.struct fs) => fs.mapM fun f => (sizeOfT P f.type).map fun s => (f.offset, s)
  | _ => none
def evps (e : Env) : List (Nat × Operand) → Option (List (Nat × Value))
  | [] => some []
  | (i, x) :: r => match ev e x, evps e r with
    | some v, some vs => some ((i, v) :: vs)
    | _, _ => none
theorem evps_map {ρ : Operand → Value} (h : ∀ x u, ev e x = some u → ρ x = u) : ∀ {l : List (Nat × Operand)} {vs : List (Nat × Value)}, evps e l = some vs → l.map (fun p => (p.1, ρ p.2)) = vs
  | [], vs, hv => by simpa [evps] using hv
  | (i, x) :: r, vs, hv => by
    simp only [evps] at hv
    cases hx : ev e x with
    | none => simp [hx] at hv
    | some v =>
      cases hr : evps e r with
      | none => simp [hx, hr] at hv
      | some us =>
        simp [hx, hr] at hv
        rw [List.map_cons, h x v hx, evps_map h hr, hv]
theorem run_places : ∀ (fs : List Field) (pl : List (Nat × Nat)) (w : World), (fs.mapM fun f => (sizeOfT P f.type).map fun s => (f.offset, s)) = some pl →
    (fs.mapM (m := Sem) fun f => do pure (f.offset, ← sizeOf f.type)).run P w = .ok pl w
  | [], pl, w, h => by simp at h; subst h; simp
  | f :: r, pl, w, h => by
    rw [List.mapM_cons] at h ⊢
    cases hs : sizeOfT P f.type with
    | none => simp [hs] at h
    | some s =>
      cases hr : (r.mapM fun f => (sizeOfT P f.type).map fun s => (f.offset, s)) with
      | none => simp [hs, hr] at h
      | some pr =>
        simp [hs, hr] at h
        subst h
        have := run_places r pr w hr
        simp at this
        simp [run_sizeOfT hs, this]
theorem R_build {t : TypeId} {parts : List (Nat × Operand)} {pvs : List (Nat × Value)} {z : Value} {pl : Array (Nat × Nat)} {cells : Array Value} (hz : zeroOfT P t = some z) (hp : placesT P t = some pl)
    (hv : evps e parts = some pvs) (hf : Instr.fill (fun i => pl[i]?) z.cells pvs = some cells) : Runs P e w ⟨dst, .build t parts.toArray, ty, pos, af, gd⟩ (.agg cells) w := fun ρ h => by
  unfold placesT at hp
  split at hp
  · rename_i fs hs
    have hm : (fs.mapM (m := Sem) fun f => do pure (f.offset, ← sizeOf f.type)).run P w = .ok pl w := by
      rw [Array.mapM_eq_mapM_toList] at hp ⊢
      cases hq : (fs.toList.mapM fun f => (sizeOfT P f.type).map fun s => (f.offset, s)) with
      | none => simp [hq] at hp
      | some q =>
        simp [hq] at hp
        subst hp
        have := run_places fs.toList q w hq
        simp at this
        simp [this]
    have he := evps_map h hv
    simp only [execOp, Instr.build]
    rw [show (parts.toArray.map fun (x : Nat × Operand) => (x.1, ρ x.2)) = pvs.toArray from by rw [← he]; simp]
    simp only [Sem.run_bind, run_zeroOfT hz, Result.andThen_ok, run_underlying hs, hm, hf, Sem.run_pure]
  · cases hp
end
end Go.EW
