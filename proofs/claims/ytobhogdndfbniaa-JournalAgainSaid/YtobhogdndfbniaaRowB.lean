/- Slices of slices of bytes of the call's own; equality of flat structs; bytes as an argument. -/
import Derived.Test.YtobhogdndfbniaaFind
import Derived.ProofKit
import Derived.Deep.Slices
import Derived.Laws.StructEq
set_option linter.unusedVariables false
set_option linter.unusedSimpArgs false
set_option maxRecDepth 100000
namespace Go.EW
open Go.RowKit
/-! ### structs of whole numbers compared -/
def eqF (P : Program) : List Field → Array Value → Array Value → Option Bool
  | [], _, _ => some true
  | f :: r, xs, ys => bif f.name == "_" then none else match P.underlying f.type, xs[f.offset]?, ys[f.offset]? with
    | some (.int _), some (.int k a), some (.int k' b) => if k = k' then (eqF P r xs ys).map (decide (a = b) && ·) else none
    | _, _, _ => none
theorem run_eqF {P : Program} (d : Nat) (xs ys : Array Value) (w : World) : ∀ (fs : List Field) (b : Bool), eqF P fs xs ys = some b → (Op.eqFields (d + 1) xs ys fs).run P w = .ok b w
  | [], b, h => by simp [eqF] at h; subst h; simp [Op.eqFields]
  | f :: r, b, h => by
    unfold eqF at h
    cases hn : f.name == "_" with
    | true => simp [hn] at h
    | false =>
      simp only [hn, cond_false] at h
      split at h
      · rename_i kk k a k' b' hu hx hy
        split at h
        · rename_i hk
          subst hk
          cases hr : eqF P r xs ys with
          | none => simp [hr] at h
          | some c =>
            simp [hr] at h
            have hag : aggT P f.type = some false := by simp [aggT, hu, TypeDesc.isRow]
            have hp : ∀ (zs : Array Value) (z : Value), zs[f.offset]? = some z → (part f.type zs f.offset).run P w = .ok z w := fun zs z hz => by
              simp [part, run_aggT hag, hz]
            have hne : f.name ≠ "_" := by simpa using hn
            have ih := run_eqF d xs ys w r c hr
            simp only [Op.eqFields, if_pos hne, Sem.run_bind, hp xs _ hx, hp ys _ hy, Result.andThen_ok, run_equalIn_int w d f.type k kk a b' hu]
            subst h
            by_cases hab : a = b'
            · subst hab
              simp [ih]
            · have : (a == b') = false := by simpa using hab
              simp [this, hab]
        · cases h
      · cases h
section
variable {P : Program} {e : Env} {w : World} {dst : Option Tmp} {ty : TypeId} {pos : String} {af : Array Edge} {gd : Option (Nat × Bool)}
/-- two structs of whole numbers only: are they the same? -/
def eqT (P : Program) (t : TypeId) (xs ys : Array Value) : Option Bool := match P.underlying t with
  | some (.struct fs) => if P.stoodInHeld t = false ∧ P.eqGuardType P.depth t = false then eqF P fs.toList xs ys else none
  | _ => none
theorem run_eqT {x y : Operand} {op : BinOp} {t : TypeId} {xs ys : Array Value} {b : Bool} (hb : eqT P t xs ys = some b) : (eqGuard op t x y (.agg xs) (.agg ys)).run P w = .ok () w ∧ (Op.equalIn 10000 t (.agg xs) (.agg ys)).run P w = .ok b w := by
  unfold eqT at hb
  split at hb
  · rename_i fs' hu
    split at hb
    · rename_i hh
      have hfo : P.fieldsOf t = fs' := by simp [Program.fieldsOf, hu]
      have hu' : P.underlying t = some (.struct (P.fieldsOf t)) := by rw [hfo]; exact hu
      refine ⟨run_eqGuard_agg w op t x y xs ys hh.2, ?_⟩
      rw [run_equalIn_struct w 9999 t xs ys hu' hh.1, hfo]
      exact run_eqF 9998 xs ys w _ b hb
    · cases hb
  · cases hb
theorem R_neqAgg {x y : Operand} {t yt : TypeId} {xs ys : Array Value} {b : Bool} (hx : ev e x = some (.agg xs)) (hy : ev e y = some (.agg ys)) (hb : eqT P t xs ys = some b) :
    Runs P e w ⟨dst, .binOp .neq t x y yt, ty, pos, af, gd⟩ (.bool (!b)) w := fun ρ h => by
  obtain ⟨h1, h2⟩ := run_eqT (w := w) (x := x) (y := y) (op := .neq) hb
  simp only [execOp, h x _ hx, h y _ hy, Sem.run_bind, h1, Result.andThen_ok, run_neq_struct, h2, Sem.run_pure]
theorem R_eqlAgg {x y : Operand} {t yt : TypeId} {xs ys : Array Value} {b : Bool} (hx : ev e x = some (.agg xs)) (hy : ev e y = some (.agg ys)) (hb : eqT P t xs ys = some b) :
    Runs P e w ⟨dst, .binOp .eql t x y yt, ty, pos, af, gd⟩ (.bool b) w := fun ρ h => by
  obtain ⟨h1, h2⟩ := run_eqT (w := w) (x := x) (y := y) (op := .eql) hb
  simp only [execOp, h x _ hx, h y _ hy, Sem.run_bind, h1, Result.andThen_ok, run_eql_struct, h2, Sem.run_pure]
end
/-! ### an owned row, one cell set -/
theorem own_set1 {w w' : World} {base g m cap : Nat} {E : TypeId} {cur : Array Value} {xs : List Value} {j : Nat} {v : Value} (h : w.ownsRow base E 1 (.slice (some ⟨g, 0, none⟩) m cap) m xs) (hb : Bk w g cur E) (hu : Upd w w' g (cur.setIfInBounds j v) E) (hj : j < m) :
    w'.ownsRow base E 1 (.slice (some ⟨g, 0, none⟩) m cap) m (xs.set j v) := by
  obtain ⟨g', cap', cur', hv, hbase, hb', h3, h4, h5, h6⟩ := own_form h (by omega)
  injection hv with hA hl hc
  injection hA with hA
  injection hA with hA _ _
  subst hA; subst hc
  obtain ⟨rfl, _⟩ := hb.inj hb'
  have hxl : xs.length = m := by simpa using h.1
  refine ⟨by simp; omega, .inr ⟨g, cap, _, rfl, hbase, hu.bk, h3, h4, by simpa using h5, ?_⟩⟩
  rw [Nat.mul_one] at h6 h5 ⊢
  rw [← h6]
  apply List.ext_getElem?
  intro k
  simp only [List.getElem?_take, List.getElem?_set, Array.getElem?_toList, Array.getElem?_setIfInBounds, List.length_take, Array.length_toList]
  by_cases hk : k < m
  · simp only [hk, if_true]
    by_cases hjk : j = k
    · subst hjk
      simp only [if_true]
      rw [if_pos (by omega), if_pos (by omega)]
    · simp only [hjk, if_false]
  · simp only [hk, if_false]
    by_cases hjk : j = k
    · omega
    · simp only [hjk, if_false]
end Go.EW
namespace Go.Proofs.Ytobhogdndfbniaa
open Go.EW Go.RowKit Go.ChangeShapes Go.WideShapes
theorem own_cell {w : World} {base g m c : Nat} {E : TypeId} {xs : List Value} (h : w.ownsRow base E 1 (.slice (some ⟨g, 0, none⟩) m c) m xs) {k : Nat} {v : Value} (hk : xs[k]? = some v) : w.cell? ⟨g, k, none⟩ = some v := by
  have hs := Src.own h
  have hlt := (List.getElem?_eq_some_iff.1 hk).1
  have hl : xs.length = m * 1 := hs.1
  obtain ⟨g', i, hA, hc⟩ := hs.2 (by omega)
  injection hA with hA
  injection hA with h1 h2 _
  subst h1; subst h2
  have := hc k v (by simpa using hk)
  rwa [Nat.zero_add] at this
/-- two heads -/
theorem heads_eq (a b a' b' : Int) : eqT Try.prog 46 #[.int .i64 a, .int .i64 b] #[.int .i64 a', .int .i64 b'] = some (decide (a = a') && (decide (b = b') && true)) := by kernel_rfl
/-! ### slices of bytes in a row -/
def BR (w : World) (B : Nat) : List (List UInt8) → List Value → Prop
  | [], [] => True
  | l :: r, v :: vs => OB B w v l ∧ BR w B r vs
  | _, _ => False
theorem BR.len {w : World} {B : Nat} : ∀ {L : List (List UInt8)} {xs : List Value}, BR w B L xs → xs.length = L.length
  | [], [], _ => rfl
  | l :: r, v :: vs, h => by have := BR.len h.2; simp only [List.length_cons]; omega
theorem BR.mods {w w' : World} {B : Nat} {S : Nat → Prop} (hm : Mods S w w') (hs : ∀ g C, Bk w g C 5 → ¬ S g) : ∀ {L : List (List UInt8)} {xs : List Value}, BR w B L xs → BR w' B L xs
  | [], [], _ => trivial
  | l :: r, v :: vs, h => ⟨hm.own h.1 fun k hk => by obtain ⟨_, cur, hc⟩ := own_blk h.1 hk; exact hs k cur hc, BR.mods hm hs h.2⟩
theorem BR.no {w w' : World} {B : Nat} (hm : Mods No w w') {L : List (List UInt8)} {xs : List Value} (h : BR w B L xs) : BR w' B L xs := h.mods hm fun _ _ _ h => h
theorem BR.mono {w : World} {B B' : Nat} (hB : B' ≤ B) : ∀ {L : List (List UInt8)} {xs : List Value}, BR w B L xs → BR w B' L xs
  | [], [], _ => trivial
  | l :: r, v :: vs, h => ⟨own_mono h.1 hB, BR.mono hB h.2⟩
theorem BR.snoc {w : World} {B : Nat} {l : List UInt8} {v : Value} (ho : OB B w v l) : ∀ {L : List (List UInt8)} {xs : List Value}, BR w B L xs → BR w B (L ++ [l]) (xs ++ [v])
  | [], [], _ => ⟨ho, trivial⟩
  | l' :: r, v' :: vs, h => ⟨h.1, BR.snoc ho h.2⟩
theorem BR.at_ {w : World} {B : Nat} : ∀ {L : List (List UInt8)} {xs : List Value}, BR w B L xs → ∀ (k : Nat) (hk : k < L.length), ∃ v, xs[k]? = some v ∧ OB B w v L[k]
  | l :: r, v :: vs, h, 0, _ => ⟨v, rfl, h.1⟩
  | l :: r, v :: vs, h, k + 1, hk => by
    obtain ⟨u, h1, h2⟩ := BR.at_ h.2 k (by simpa using hk)
    exact ⟨u, by simpa using h1, h2⟩
theorem BR.set {w : World} {B : Nat} {l : List UInt8} {v : Value} (ho : OB B w v l) : ∀ {L : List (List UInt8)} {xs : List Value} (k : Nat), BR w B L xs → BR w B (L.set k l) (xs.set k v)
  | [], [], _, _ => trivial
  | l' :: r, v' :: vs, 0, h => ⟨ho, h.2⟩
  | l' :: r, v' :: vs, k + 1, h => ⟨h.1, BR.set ho k h.2⟩
theorem OB.src {w : World} {B : Nat} {l : List UInt8} {A : Option Addr} {c : Nat} (h : OB B w (.slice A l.length c) l) : BS w A l := Src.own h
theorem BR.bbs {w : World} {B base : Nat} {A : Option Addr} {c : Nat} {L : List (List UInt8)} {xs : List Value} (h : BR w B L xs) (ho : w.ownsRow base 23 1 (.slice A L.length c) L.length xs) (hl : L.length ≤ 9223372036854775806) (hlen : ∀ l ∈ L, l.length ≤ 9223372036854775806) : BBs w A L := by
  refine ⟨hl, fun h0 => ?_⟩
  obtain ⟨g, cap, cur, hv, hb, hbk, _, _, _, ht⟩ := own_form ho h0
  injection hv with hA
  subst hA
  refine ⟨g, 0, rfl, fun k hk => ?_⟩
  obtain ⟨v, h1, h2⟩ := h.at_ k hk
  obtain ⟨Ak, ck, rfl, hle, _⟩ := own_sl h2
  refine ⟨Ak, ck, hbk.cell ?_, hle, hlen _ (List.getElem_mem hk), OB.src h2⟩
  rw [← ht, List.getElem?_take] at h1
  split at h1
  · rw [Nat.zero_add]; simpa using h1
  · cases h1
/-- fresh zeros -/
theorem madeZeros (n : Nat) : (madeCells (Value.int .u8 0).cells (n * 1)).toList = bval (zerosB n) := by
  show (madeCells #[Value.int .u8 0] (n * 1)).toList = _
  rw [madeCells_one, bval_zeros, Nat.mul_one]
  simp
theorem OB.new {w w' : World} {base n : Nat} (hn : New w w' (.cells (madeCells (Value.int .u8 0).cells (n * 1)) 5)) (hb : base ≤ w.heap.size) (hm : n ≤ maxLen) : OB base w' (.slice (some ⟨w.heap.size, 0, none⟩) n n) (zerosB n) := by
  have h := hn.own (m := n) (size := 1) (by rw [size_madeCells]) hb hm
  rw [madeZeros] at h
  unfold OB
  rw [show (zerosB n).length = n from by simp [zerosB]]
  exact h
theorem bval_set (l : List UInt8) (j : Nat) (b : UInt8) : (bval l).set j (.int .u8 (b.toNat : Int)) = bval (l.set j b) := by
  simp [bval, List.map_set]
theorem OB.set1 {w w' : World} {base g n cap : Nat} {l : List UInt8} {cur : Array Value} {j : Nat} {b : UInt8} (h : OB base w (.slice (some ⟨g, 0, none⟩) n cap) l) (hl : l.length = n) (hb : Bk w g cur 5) (hu : Upd w w' g (cur.setIfInBounds j (.int .u8 (b.toNat : Int))) 5) (hj : j < n) :
    OB base w' (.slice (some ⟨g, 0, none⟩) n cap) (l.set j b) := by
  unfold OB at h ⊢
  rw [List.length_set, ← bval_set]
  subst hl
  exact own_set1 h hb hu hj
theorem TXs.at_ {w : World} {B : Nat} : ∀ {T : List (List (Int × List UInt8))} {vs : List Value}, TXs w B T vs → ∀ (k : Nat) (hk : k < T.length), ∃ v xs, vs[k]? = some v ∧ w.ownsRow B 35 2 v T[k].length xs ∧ WLo w B T[k] xs
  | t :: r, v :: vs, h, 0, _ => by
    obtain ⟨⟨xs, h1, h2⟩, _⟩ := h
    exact ⟨v, xs, rfl, h1, h2⟩
  | t :: r, v :: vs, h, k + 1, hk => by
    obtain ⟨u, xs, h1, h2⟩ := TXs.at_ h.2 k (by simpa using hk)
    exact ⟨u, xs, by simpa using h1, h2⟩
theorem TXs.no {w w' : World} {B : Nat} (hm : Mods No w w') {T : List (List (Int × List UInt8))} {vs : List Value} (h : TXs w B T vs) : TXs w' B T vs := h.mods hm (fun _ _ _ h => h) (fun _ _ _ h => h)
theorem TXs.len {w : World} {B : Nat} : ∀ {T : List (List (Int × List UInt8))} {vs : List Value}, TXs w B T vs → vs.length = T.length
  | [], [], _ => rfl
  | t :: r, v :: vs, h => by have := TXs.len h.2; simp only [List.length_cons]; omega
/-! ### bytes as an argument -/
section
variable {H : Type} {enc : TypeId × Value → H} {w : World} {base : Nat} {spare : Nat → Bool} {held : Bool}
theorem spot_none {w : World} {a : Addr} {n : Nat} {v : Value} (h : w.cell? (a.add n) = some v) : (a.add n).spot = none := by
  unfold World.cell? at h
  split at h
  · cases hs : (a.add n).spot with
    | none => rfl
    | some x => simp [hs] at h
  · cases h
theorem addr_plain {w : World} {a : Addr} {v : Value} (h : w.cell? (a.add 0) = some v) : a = ⟨a.block, a.off, none⟩ := by
  have := spot_none h
  cases a
  simp [Addr.add] at this
  simp [this]
theorem byte_of_wf {n : Int} (h : (Lit.int .u8 n).wf = true) : 0 ≤ n ∧ n ≤ 255 := by
  simp [Lit.wf, IntKind.min, IntKind.max, IntKind.bits, IntKind.signed] at h
  omega
theorem bytes_open {fuel : Nat} {v : Value} {x : DataW H × List MemPlace} (h : DataW.trod enc Try.prog w base spare held fuel 23 [v] = some x) :
    ∃ A l c, v = .slice A (List.length l) c ∧ BS w A l ∧ l.length ≤ c ∧ l.length ≤ 9223372036854775807 := by
  rcases open_ints Try.underlying23 Try.underlying5 (by kernel_rfl) h with ⟨hcs, _⟩ | ⟨a, len, cap, zs, hcs, _, hl, hm, hz, _, hcell, hwz⟩
  · injection hcs with hv
    exact ⟨none, [], 0, hv, ⟨rfl, fun h0 => by simp at h0⟩, by simp, by simp⟩
  · injection hcs with hv
    have hle : len ≤ zs.length := by rw [hz]; split <;> omega
    refine ⟨some a, (zs.take len).map fun z => UInt8.ofNat z.toNat, cap, by rw [hv]; simp; omega, ⟨by simp [bval], fun h0 => ?_⟩, by simp; omega, by simp [maxLen] at hm ⊢; omega⟩
    have hlen : 0 < len := by simp at h0; omega
    have hc0 := hcell 0 (by omega)
    have ha := addr_plain hc0
    refine ⟨a.block, a.off, by rw [← ha], fun j u hj => ?_⟩
    have hb : j < len := by
      have := (Array.getElem?_eq_some_iff.1 hj).1
      simp [bval] at this
      omega
    have hcj := hcell j (by omega)
    rw [ha, add_none] at hcj
    rw [hcj, ← hj]
    have hwf := byte_of_wf (hwz (zs.getD j 0) (by rw [List.getD_eq_getElem?_getD, List.getElem?_eq_getElem (by omega)]; exact List.getElem_mem _))
    have hzj : zs[j]? = some (zs.getD j 0) := by rw [List.getD_eq_getElem?_getD, List.getElem?_eq_getElem (by omega)]; rfl
    generalize zs.getD j 0 = z at hwf hzj
    have hz' : (UInt8.ofNat z.toNat).toNat = z.toNat := by
      show (BitVec.ofNat 8 z.toNat).toNat = _
      rw [BitVec.toNat_ofNat]
      omega
    simp only [bval, List.getElem?_toArray, List.getElem?_map, List.getElem?_take, if_pos hb, hzj, Option.map_some, Option.some.injEq, Value.int.injEq, true_and, hz']
    omega
end
end Go.Proofs.Ytobhogdndfbniaa
