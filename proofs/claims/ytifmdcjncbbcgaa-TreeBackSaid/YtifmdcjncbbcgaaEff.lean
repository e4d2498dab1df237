/- Operations that change the world: stores, new blocks, appends; over the calculus of XEnv. -/
import Derived.Test.YtifmdcjncbbcgaaRegs
import Derived.Laws.MakeOwn
import Derived.Laws.CopyRow
import Derived.Laws.IdiomStrings
import Derived.Laws.BytesArg
set_option linter.unusedVariables false
set_option linter.unusedSimpArgs false
namespace Go.EW
open Go.RowKit

def splice (C : Array Value) (i : Nat) (cs : Array Value) : Array Value := (C.toList.take i ++ cs.toList ++ C.toList.drop (i + cs.size)).toArray
theorem splice_size {C cs : Array Value} {i : Nat} (h : i + cs.size ≤ C.size) : (splice C i cs).size = C.size := by
  simp [splice]; omega
theorem splice_in {C cs : Array Value} {i j : Nat} (h : i + cs.size ≤ C.size) (hj : j < cs.size) : (splice C i cs)[i + j]? = cs[j]? := by
  have hl : (List.take i C.toList).length = i := by simp; omega
  simp only [splice, List.append_assoc, List.getElem?_toArray]
  rw [List.getElem?_append_right (by omega), hl, show i + j - i = j from by omega, List.getElem?_append_left (by simpa using hj)]
  simp
theorem splice_out {C cs : Array Value} {i j : Nat} (h : i + cs.size ≤ C.size) (hj : j < i ∨ i + cs.size ≤ j) : (splice C i cs)[j]? = C[j]? := by
  have hl : (List.take i C.toList).length = i := by simp; omega
  simp only [splice, List.append_assoc, List.getElem?_toArray]
  rcases hj with hj | hj
  · rw [List.getElem?_append_left (by omega), List.getElem?_take_of_lt hj]
    simp
  · rw [List.getElem?_append_right (by omega), hl, List.getElem?_append_right (by simp; omega)]
    simp only [Array.length_toList, List.getElem?_drop]
    rw [show i + cs.size + (j - i - cs.size) = j from by omega]
    simp

theorem splice_all {C cs : Array Value} (h : C.size = cs.size) : splice C 0 cs = cs := by
  apply Array.ext
  · rw [splice_size (by omega)]; exact h
  · intro j h1 h2
    have := splice_in (C := C) (cs := cs) (i := 0) (j := j) (by omega) h2
    rw [Nat.zero_add, Array.getElem?_eq_getElem h1, Array.getElem?_eq_getElem h2] at this
    injection this
theorem fold_set (off : Nat) : ∀ (l : List Value) (k : Nat) (C : Array Value), off + k + l.length ≤ C.size →
    ((l.zipIdx k).foldl (fun cs (p : Value × Nat) => cs.setIfInBounds (off + p.2) p.1) C) = splice C (off + k) l.toArray
  | [], k, C, h => by
    simp only [List.zipIdx_nil, List.foldl_nil, splice]
    simp
  | v :: r, k, C, h => by
    simp only [List.zipIdx_cons, List.foldl_cons]
    simp only [List.length_cons] at h
    rw [fold_set off r (k + 1) _ (by simp; omega)]
    apply Array.ext_getElem?
    intro j
    by_cases h1 : j < off + k
    · rw [splice_out (by simp; omega) (.inl (by omega)), splice_out (by simp; omega) (.inl h1), Array.getElem?_setIfInBounds_ne (by omega)]
    · by_cases h2 : j = off + k
      · subst h2
        rw [splice_out (by simp; omega) (.inl (by omega)), Array.getElem?_setIfInBounds_self_of_lt (by omega)]
        have := splice_in (C := C) (cs := (v :: r).toArray) (i := off + k) (j := 0) (by simp; omega) (by simp)
        rw [Nat.add_zero] at this
        rw [this]
        rfl
      · by_cases h3 : j < off + k + 1 + r.length
        · obtain ⟨q, rfl⟩ : ∃ q, j = off + (k + 1) + q := ⟨j - (off + (k + 1)), by omega⟩
          rw [splice_in (by simp; omega) (by simp; omega)]
          have := splice_in (C := C) (cs := (v :: r).toArray) (i := off + k) (j := q + 1) (by simp; omega) (by simp; omega)
          rw [show off + (k + 1) + q = off + k + (q + 1) from by omega, this]
          simp
        · rw [splice_out (by simp; omega) (.inr (by simp; omega)), splice_out (by simp; omega) (.inr (by simp; omega)), Array.getElem?_setIfInBounds_ne (by omega)]
/-- one part that fills the whole -/
theorem fill_whole {C : Array Value} {v : Value} {s : Nat} (hv : v.cells.size = s) (hC : C.size = s) : Instr.fill (fun i => some (i * s, s)) C [(0, v)] = some v.cells := by
  have hc : ¬ (v.cells.size ≠ s ∨ 0 * s + v.cells.size > C.size) := by
    rw [hv, hC]; omega
  simp only [Instr.fill]
  rw [if_neg (by simpa using hc)]
  congr 1
  rw [← Array.foldl_toList, Array.toList_zipIdx]
  have := fold_set 0 v.cells.toList 0 C (by simp; omega)
  simp only [Nat.zero_mul]
  refine Eq.trans this ?_
  rw [Nat.add_zero, Array.toArray_toList, splice_all (by omega)]
section
variable {P : Program} {n : Nat} {Q : Post} {K : Kont} {D : List Deferred} {e : Env} {w : World} {dst : Option Tmp} {d : Tmp} {ty : TypeId} {pos : String} {af : Array Edge} {gd : Option (Nat × Bool)}

theorem upd_setRow {g : Nat} {C C' : Array Value} {t : TypeId} (h : Bk w g C t) : Upd w (w.setRow g C') g C' t :=
  ⟨⟨rfl, rfl, rfl, by simp, fun k hk hn => setRow_other w g k C' hn⟩, setRow_heap w g C C' t (0, 0) h, by simp⟩
theorem oneCell_cells {v : Value} (h : v.oneCell' = true) : v.cells = #[v] := by cases v <;> simp [Value.oneCell'] at h <;> rfl

theorem EO_store1 {x y : Operand} {t ct : TypeId} {g i : Nat} {v : Value} {C : Array Value} (hx : ev e x = some (.pointer (some ⟨g, i, none⟩))) (hy : ev e y = some v) (hs : sizeOfT P t = some 1) (h1 : v.oneCell' = true)
    (hb : Bk w g C ct) (hi : i < C.size) (h : ∀ w', Upd w w' g (C.setIfInBounds i v) ct → K D e w') : EO P n ⟨none, .store t x y, ty, pos, af, gd⟩ K D e w := by
  refine EO_does (w' := w.setCell ⟨g, i, none⟩ v) (fun ρ hρ => ?_) rfl (h _ (upd_setCell hb v))
  have hc : w.cell? ⟨g, i, none⟩ = some C[i] := hb.cell (Array.getElem?_eq_getElem hi)
  have hf : w.frozen? ⟨g, i, none⟩ = false := hb.frozen i
  have hst : (store ((⟨g, i, none⟩ : Addr).add 0) v).run P w = .ok () (w.setCell ⟨g, i, none⟩ v) := by
    rw [add_none, Nat.add_zero, run_store P w _ v _ h1, hc]
    simp [hf]
  simp only [execOp, hρ x _ hx, hρ y _ hy, Instr.storeAt, Instr.sureAddr, storeVar, oneCell_cells h1, Sem.run_bind, Sem.run_pure, Result.andThen_ok, run_sizeOfT hs]
  simp [storeCells, hst]
theorem EO_storeAgg {x y : Operand} {t ct : TypeId} {g i : Nat} {cs : Array Value} {C : Array Value} (hx : ev e x = some (.pointer (some ⟨g, i, none⟩))) (hy : ev e y = some (.agg cs)) (hs : sizeOfT P t = some cs.size) (h1 : ∀ v ∈ cs, v.oneCell' = true)
    (hb : Bk w g C ct) (hi : i + cs.size ≤ C.size) (h : ∀ w', Upd w w' g (splice C i cs) ct → K D e w') : EO P n ⟨none, .store t x y, ty, pos, af, gd⟩ K D e w := by
  refine EO_does (w' := w.setRow g (splice C i cs)) (fun ρ hρ => ?_) rfl (h _ (upd_setRow hb))
  have hst := run_storeCells_at (P := P) g i ct cs.toList 0 C w hb (by simpa using hi) (fun v hv => h1 v (by simpa using hv))
  simp only [Nat.add_zero, Array.length_toList] at hst
  simp only [execOp, hρ x _ hx, hρ y _ hy, Instr.storeAt, Instr.sureAddr, storeVar, Value.cells, Sem.run_bind, Sem.run_pure, Result.andThen_ok, run_sizeOfT hs]
  simp [hst, splice]
theorem EO_storeAggB {x y : Operand} {t ct : TypeId} {g i : Nat} {cs : Array Value} {C : Array Value} (hb : Bk w g C ct) (hx : ev e x = some (.pointer (some ⟨g, i, none⟩))) (hy : ev e y = some (.agg cs)) (hs : sizeOfT P t = some cs.size) (h1 : cs.toList.all (·.oneCell') = true)
    (hi : Nat.ble (i + cs.size) C.size = true) (h : ∀ w', Upd w w' g (splice C i cs) ct → K D e w') : EO P n ⟨none, .store t x y, ty, pos, af, gd⟩ K D e w :=
  EO_storeAgg hx hy hs (fun v hv => List.all_eq_true.1 h1 v (by simpa using hv)) hb (by simpa [Nat.ble_eq] using hi) h
/-- a variable of several cells is set whole -/
theorem EO_storeWhole {x y : Operand} {t ct : TypeId} {g : Nat} {cs : Array Value} {C : Array Value} (hb : Bk w g C ct) (hx : ev e x = some (.pointer (some ⟨g, 0, none⟩))) (hy : ev e y = some (.agg cs)) (hs : sizeOfT P t = some cs.size) (h1 : cs.toList.all (·.oneCell') = true)
    (hi : C.size = cs.size) (h : ∀ w', Upd w w' g cs ct → K D e w') : EO P n ⟨none, .store t x y, ty, pos, af, gd⟩ K D e w :=
  EO_storeAgg hx hy hs (fun v hv => List.all_eq_true.1 h1 v (by simpa using hv)) hb (by omega) fun w' hu => h w' (by rw [splice_all hi] at hu; exact hu)
theorem madeCells_at {z : Array Value} {m k : Nat} (hk : k < m) (hz : 0 < z.size) : (madeCells z m)[k]? = z[k % z.size]? := by
  have hlt : k % z.size < z.size := Nat.mod_lt _ hz
  simp only [madeCells, Array.getElem?_map]
  rw [Array.getElem?_eq_getElem (by simpa using hk), Array.getElem?_eq_getElem hlt]
  simp [getElem!_pos z (k % z.size) hlt]
theorem EO_alloc {t : TypeId} {z : Value} (hz : zeroOfT P t = some z) (hd : Nat.blt d n = true) (h : ∀ w', New w w' (.cells z.cells t) → K D ((d, .pointer (some ⟨w.heap.size, 0, none⟩)) :: e) w') :
    EO P n ⟨some d, .alloc t, ty, pos, af, gd⟩ K D e w := by
  refine EO_val (w' := w.alloc (.cells z.cells t)) (fun ρ hρ => ?_) rfl hd (h _ (new_alloc w _))
  simp [execOp, Instr.alloc, run_zeroOfT hz, newVar, newRow]
theorem EO_box {x : Operand} {t : TypeId} {v : Value} (hx : ev e x = some v) (hd : Nat.blt d n = true) (h : ∀ w', New w w' (.cells v.cells t) → K D ((d, .pointer (some ⟨w.heap.size, 0, none⟩)) :: e) w') :
    EO P n ⟨some d, .box t x, ty, pos, af, gd⟩ K D e w := by
  refine EO_val (w' := w.alloc (.cells v.cells t)) (fun ρ hρ => ?_) rfl hd (h _ (new_alloc w _))
  simp [execOp, Instr.box, hρ x _ hx, newVar, newRow]
theorem EO_makeSlice {x y : Operand} {t E : TypeId} {z : Value} {s b : Nat} {kl kc : IntKind} {l c : Int} (l' c' : Nat) (hx : ev e x = some (.int kl l)) (hy : ev e y = some (.int kc c)) (hu : P.underlying t = some (.slice E)) (hz : zeroOfT P E = some z) (hs : sizeOfT P E = some s)
    (hby : bytesOfT P E = some b) (hl' : l = (l' : Int)) (hc' : c = (c' : Int)) (hlc : l' ≤ c') (hbytes : b * c' ≤ 281474976710656) (h63 : c' ≤ 9223372036854775807) (hd : Nat.blt d n = true)
    (h : ∀ w', New w w' (.cells (madeCells z.cells (c' * s)) E) → K D ((d, .slice (some ⟨w.heap.size, 0, none⟩) l' c') :: e) w') :
    EO P n ⟨some d, .makeSlice t x y, ty, pos, af, gd⟩ K D e w := by
  subst hl'
  subst hc'
  obtain ⟨i, hi, rfl⟩ := info_of_size hs
  have hib : i.bytes = b := by simpa [bytesOfT, hi] using hby
  subst hib
  have hzz : i.zero = some z := by simpa [zeroOfT, hi] using hz
  refine EO_val (w' := w.alloc (.cells (madeCells z.cells (c' * i.size)) E)) (fun ρ hρ => ?_) rfl hd (h _ (new_alloc w _))
  have hm := run_make (P := P) w t E i z hu hi hzz kl kc (l' : Int) (c' : Int) (by omega) (by omega) (by
    have : ((i.bytes * c' : Nat) : Int) ≤ 281474976710656 := by omega
    rwa [Int.natCast_mul] at this) (by omega)
  simp only [Int.toNat_natCast] at hm
  simp [execOp, hρ x _ hx, hρ y _ hy, hm]
theorem EO_buildSlice {t E : TypeId} {len s : Nat} {parts : List (Nat × Operand)} {pvs : List (Nat × Value)} {z : Value} {cells : Array Value} (hu : P.underlying t = some (.slice E)) (hz : zeroOfT P E = some z) (hs : sizeOfT P E = some s)
    (hsm : Nat.ble (len * s) 16777216 = true) (hne : Nat.beq (len * s) 0 = false) (hv : evps e parts = some pvs) (hf : Instr.fill (fun i => some (i * s, s)) (madeCells z.cells (len * s)) pvs = some cells) (hd : Nat.blt d n = true)
    (h : ∀ w', New w w' (.cells cells E) → K D ((d, .slice (some ⟨w.heap.size, 0, none⟩) len len) :: e) w') : EO P n ⟨some d, .buildSlice t len parts.toArray, ty, pos, af, gd⟩ K D e w := by
  refine EO_val (w' := w.alloc (.cells cells E)) (fun ρ hρ => ?_) rfl hd (h _ (new_alloc w _))
  have he := evps_map hρ hv
  have hle : len * s ≤ 16777216 := by simpa [Nat.ble_eq] using hsm
  have h0 : ¬ len * s = 0 := fun h0 => by rw [h0] at hne; cases hne
  have hgt : ¬ len * s > 2 ^ 24 := by omega
  simp only [execOp, Instr.buildSlice]
  rw [show (parts.toArray.map fun (x : Nat × Operand) => (x.1, ρ x.2)) = pvs.toArray from by rw [← he]; simp]
  simp only [Sem.run_bind, run_underlying hu, Result.andThen_ok, run_sizeOfT hs, if_neg hgt, if_neg h0, Sem.run_pure, run_zeroOfT hz]
  unfold madeCells at hf
  simp [hf, newRow]
/-- an empty slice of the call's own -/
theorem EO_buildSlice0 {t E : TypeId} {s : Nat} (hu : P.underlying t = some (.slice E)) (hs : sizeOfT P E = some s) (hd : Nat.blt d n = true)
    (h : ∀ w', New w w' (.cells #[] E) → K D ((d, .slice (some ⟨w.heap.size, 0, none⟩) 0 0) :: e) w') : EO P n ⟨some d, .buildSlice t 0 #[], ty, pos, af, gd⟩ K D e w := by
  refine EO_val (w' := w.alloc (.cells #[] E)) (fun ρ hρ => ?_) rfl hd (h _ (new_alloc w _))
  simp [execOp, Instr.buildSlice, run_underlying hu, run_sizeOfT hs, Instr.fill, newRow, Array.range_zero']

/-! ### append -/
/-- m elements of 'size' cells each, read from A on -/
def Src (w : World) (A : Option Addr) (m size : Nat) (news : List Value) : Prop :=
  news.length = m * size ∧ (0 < m → ∃ g i, A = some ⟨g, i, none⟩ ∧ Cells w g i news.toArray)
theorem Src.mods {S : Nat → Prop} {w' : World} {A : Option Addr} {m size : Nat} {news : List Value} (h : Src w A m size news) (hm : Mods S w w') (hn : ∀ g i, A = some ⟨g, i, none⟩ → ¬ S g) : Src w' A m size news :=
  ⟨h.1, fun h0 => by obtain ⟨g, i, ha, hc⟩ := h.2 h0; exact ⟨g, i, ha, hm.cells hc (hn g i ha)⟩⟩
theorem Src.bk {g i : Nat} {C : Array Value} {t : TypeId} (h : Bk w g C t) (m size : Nat) (news : List Value) (hl : news.length = m * size) (hc : ∀ (j : Nat) (v : Value), news[j]? = some v → C[i + j]? = some v) : Src w (some ⟨g, i, none⟩) m size news :=
  ⟨hl, fun _ => ⟨g, i, rfl, h.cells i _ fun j v hv => hc j v (by simpa using hv)⟩⟩
theorem Src.own {base : Nat} {t : TypeId} {size m c : Nat} {A : Option Addr} {xs : List Value} (h : w.ownsRow base t size (.slice A m c) m xs) : Src w A m size xs := by
  refine ⟨h.1, fun h0 => ?_⟩
  rcases h.2 with ⟨hv, hm⟩ | ⟨g, cap, cur, hv, _, hg, _, _, _, ht⟩
  · omega
  · injection hv with hA
    subst hA
    refine ⟨g, 0, rfl, Bk.cells (C := cur) (t := t) hg 0 _ fun j v hj => ?_⟩
    have hj' : xs[j]? = some v := by simpa using hj
    rw [← ht, List.getElem?_take] at hj'
    split at hj'
    · simpa using hj'
    · cases hj'
theorem run_append_src {base : Nat} {t ty' E : TypeId} {size b : Nat} {z : Value} (hu : P.underlying t = some (.slice E)) (hs : sizeOfT P E = some size) (hz : zeroOfT P E = some z) (hby : bytesOfT P E = some b) (hzs : z.cells.size = size) (hsz : 0 < size)
    {v : Value} {m0 : Nat} {xs : List Value} (hown : w.ownsRow base E size v m0 xs) {A : Option Addr} {m c : Nat} {news : List Value} (hsrc : Src w A m size news) (h1 : ∀ u ∈ news, u.oneCell' = true) (h63 : m0 + m ≤ maxLen) (hbytes : (m0 + m) * b ≤ 140737488355328) (hbase : base ≤ w.heap.size) :
    ∃ v' w', (Builtin.append_ #[t, t] ty' #[v, .slice A m c]).run P w = .ok v' w' ∧ w'.ownsRow base E size v' (m0 + m) (xs ++ news) ∧ w.grownBy w' v.ownBlock ∧ (v'.ownBlock = v.ownBlock ∨ v'.ownBlock = some w.heap.size) := by
  obtain ⟨i, hi, rfl⟩ := info_of_size hs
  have hib : i.bytes = b := by simpa [bytesOfT, hi] using hby
  have hzz : i.zero = some z := by simpa [zeroOfT, hi] using hz
  rcases A with _ | ad
  · have hm : m = 0 := by
      rcases Nat.eq_zero_or_pos m with h0 | h0
      · exact h0
      · obtain ⟨g, j, ha, _⟩ := hsrc.2 h0; cases ha
    subst hm
    have hn : news = [] := List.eq_nil_of_length_eq_zero (by simpa using hsrc.1)
    subst hn
    refine ⟨v, w, ?_, by simpa using hown, ⟨rfl, rfl, rfl, Nat.le_refl _, fun _ _ _ => rfl⟩, .inl rfl⟩
    rcases hown.2 with ⟨rfl, _⟩ | ⟨g, cap, cur, rfl, _, _, hnc, _⟩
    · simp [Builtin.append_, run_underlying hu, sizeOf, typeInfo, hi, Builtin.lenOf, Builtin.firstCells]
    · simp [Builtin.append_, run_underlying hu, sizeOf, typeInfo, hi, Builtin.lenOf, Builtin.firstCells, hnc, storeCells]
  · have hcells : ∀ j u, news[j]? = some u → w.cell? (ad.add j) = some u := by
      intro j u hu'
      rcases Nat.eq_zero_or_pos m with h0 | h0
      · subst h0
        have hn : news = [] := List.eq_nil_of_length_eq_zero (by simpa using hsrc.1)
        subst hn
        simp at hu'
      · obtain ⟨g, k, ha, hc⟩ := hsrc.2 h0
        injection ha with ha
        subst ha
        rw [add_none]
        exact hc j u (by simpa using hu')
    obtain ⟨v', w', hrun, h2, h3, _, h5⟩ := run_append_own_at (P := P) w base t ty' E i z i.size b hu hi hzz rfl hib hzs hsz v m0 xs hown ad m c news hsrc.1 hcells h1 h63 hbytes hbase
    exact ⟨v', w', hrun, h2, h3, h5⟩
theorem EO_append {x y : Operand} {base : Nat} {t E : TypeId} {size b : Nat} {z : Value} {v : Value} {m0 : Nat} {xs : List Value} {A : Option Addr} {m c : Nat} {news : List Value} (hx : ev e x = some v) (hy : ev e y = some (.slice A m c)) (hu : P.underlying t = some (.slice E)) (hs : sizeOfT P E = some size) (hz : zeroOfT P E = some z) (hby : bytesOfT P E = some b) (hzs : z.cells.size = size) (hsz : 0 < size)
    (hown : w.ownsRow base E size v m0 xs) (hsrc : Src w A m size news) (h1 : ∀ u ∈ news, u.oneCell' = true) (h63 : m0 + m ≤ maxLen) (hbytes : (m0 + m) * b ≤ 140737488355328) (hbase : base ≤ w.heap.size) (hd : Nat.blt d n = true)
    (h : ∀ v' w', w'.ownsRow base E size v' (m0 + m) (xs ++ news) → Mods (fun i => some i = v.ownBlock) w w' → (v'.ownBlock = v.ownBlock ∨ v'.ownBlock = some w.heap.size) → K D ((d, v') :: e) w') :
    EO P n ⟨some d, .call ⟨.builtin .append, #[x, y], #[t, t]⟩, ty, pos, af, gd⟩ K D e w := by
  obtain ⟨v', w', hrun, h2, h3, h5⟩ := run_append_src (ty' := ty) hu hs hz hby hzs hsz hown hsrc h1 h63 hbytes hbase (c := c)
  refine EO_val (w' := w') (fun ρ hρ => ?_) rfl hd (h v' w' h2 (Mods.grown h3) h5)
  simp [execOp, resolve, hρ x _ hx, hρ y _ hy, invoke, builtin, hrun]
/-- an owned slice that is not empty has a block -/
theorem own_form {base : Nat} {E : TypeId} {size : Nat} {v : Value} {m : Nat} {xs : List Value} (h : w.ownsRow base E size v m xs) (hm : 0 < m) :
    ∃ g cap cur, v = .slice (some ⟨g, 0, none⟩) m cap ∧ base ≤ g ∧ Bk w g cur E ∧ m ≤ cap ∧ cap ≤ maxLen ∧ cur.size = cap * size ∧ cur.toList.take (m * size) = xs := by
  rcases h.2 with ⟨_, h0⟩ | ⟨g, cap, cur, hv, hb, hg, h3, h4, h5, h6⟩
  · omega
  · exact ⟨g, cap, cur, hv, hb, hg, h3, h4, h5, h6⟩
theorem New.own {w' : World} {C : Array Value} {E : TypeId} {base size m : Nat} (h : New w w' (.cells C E)) (hs : C.size = m * size) (hb : base ≤ w.heap.size) (hm : m ≤ maxLen) :
    w'.ownsRow base E size (.slice (some ⟨w.heap.size, 0, none⟩) m m) m C.toList :=
  ⟨by simpa using hs, .inr ⟨w.heap.size, m, C, rfl, hb, h.at_, Nat.le_refl _, hm, hs, by rw [← hs, ← Array.length_toList, List.take_length]⟩⟩
theorem New.own0 {w' : World} {C : Array Value} {E : TypeId} {base size m : Nat} (h : New w w' (.cells C E)) (hs : C.size = m * size) (hb : base ≤ w.heap.size) (hm : m ≤ maxLen) :
    w'.ownsRow base E size (.slice (some ⟨w.heap.size, 0, none⟩) 0 m) 0 [] :=
  ⟨by simp, .inr ⟨w.heap.size, m, C, rfl, hb, h.at_, Nat.zero_le _, hm, hs, by simp⟩⟩

/-! ### copy; bytes and strings -/
theorem EO_copy {x y : Operand} {t st E ct : TypeId} {g o dl dc m c : Nat} {C : Array Value} {A : Option Addr} {news : List Value} (hb : Bk w g C ct) (hsrc : Src w A m 1 news) (h1 : ∀ v ∈ news, v.oneCell' = true) (hfit : o + min m dl ≤ C.size)
    (hx : ev e x = some (.slice (some ⟨g, o, none⟩) dl dc)) (hy : ev e y = some (.slice A m c)) (hu : P.underlying t = some (.slice E)) (hs : sizeOfT P E = some 1) (hd : Nat.blt d n = true)
    (h : ∀ w', Upd w w' g (splice C o (news.take (min m dl)).toArray) ct → K D ((d, .int .i64 ((min m dl : Nat) : Int)) :: e) w') :
    EO P n ⟨some d, .call ⟨.builtin .copy, #[x, y], #[t, st]⟩, ty, pos, af, gd⟩ K D e w := by
  have hlen : news.length = m := by simpa using hsrc.1
  have hrun : ∃ w', (Builtin.copy_ #[t, st] ty #[.slice (some ⟨g, o, none⟩) dl dc, .slice A m c]).run P w = .ok (.int .i64 ((min m dl : Nat) : Int)) w' ∧ Upd w w' g (splice C o (news.take (min m dl)).toArray) ct := by
    by_cases h0 : m = 0
    · subst h0
      have hn : news = [] := List.eq_nil_of_length_eq_zero hlen
      subst hn
      have hsp : splice C o (([] : List Value).take (min 0 dl)).toArray = C := by simp [splice]
      refine ⟨w, ?_, by rw [hsp]; exact ⟨Mods.refl _ _, hb, rfl⟩⟩
      obtain ⟨i, hi, hi1⟩ := info_of_size hs
      cases A with
      | none => simp [Builtin.copy_, run_underlying hu, Builtin.lenOf, Builtin.firstCells, sizeOf, typeInfo, hi, storeCells, goInt]
      | some a => simp [Builtin.copy_, run_underlying hu, Builtin.lenOf, Builtin.firstCells, sizeOf, typeInfo, hi, storeCells, goInt, loadCells, loadCellsFrom]
    · obtain ⟨g', i', rfl, hc⟩ := hsrc.2 (by omega)
      refine ⟨_, ?_, upd_setRow hb⟩
      have hcs : (news.take (min m dl)).length = Nat.min m dl := by simp [hlen]
      have := run_copy_row (P := P) w t st ty E g o dl dc ⟨g', i', none⟩ m c C ct (news.take (min m dl)) hu hs hb hcs (fun j v hj => by
        rw [add_none]
        refine hc j v ?_
        rw [List.getElem?_take] at hj
        split at hj
        · simpa using hj
        · cases hj) (by rw [hcs]; exact hfit) (fun v hv => h1 v (List.mem_of_mem_take hv))
      rw [this]
      simp only [goInt, splice, hcs, List.size_toArray]
  obtain ⟨w', hrun, hupd⟩ := hrun
  refine EO_val (w' := w') (fun ρ hρ => ?_) rfl hd (h w' hupd)
  simp [execOp, resolve, hρ x _ hx, hρ y _ hy, invoke, builtin, hrun]
def str (l : List UInt8) : ByteArray := ⟨l.toArray⟩
theorem str_inj {a b : List UInt8} (h : str a = str b) : a = b := by
  have := congrArg (fun s : ByteArray => s.data.toList) h
  simpa [str] using this
theorem str_size (l : List UInt8) : (str l).size = l.length := by simp [str, ByteArray.size]
theorem R_bytesStr {x : Operand} {s dt E : TypeId} {A : Option Addr} {l : List UInt8} {c m : Nat} (hm : l.length = m) (hsrc : Src w A m 1 (l.map fun b => Value.int .u8 (b.toNat : Int))) (hx : ev e x = some (.slice A m c))
    (hs : P.underlying s = some (.slice E)) (he : P.underlying E = some (.int .u8)) (hd : P.underlying dt = some .string) : Runs P e w ⟨dst, .convert s dt x, ty, pos, af, gd⟩ (.string (str l)) w := fun ρ h => by
  subst hm
  have hrun : (convert s dt (.slice A l.length c)).run P w = .ok (.string (str l)) w := by
    by_cases h0 : l.length = 0
    · have hl : l = [] := List.eq_nil_of_length_eq_zero h0
      subst hl
      cases A with
      | none => exact run_convert_bytes_nil (P := P) w s E hs he _ _ dt hd
      | some a => exact run_convert_bytes_back (P := P) w s dt E a c [] hs he hd (fun j hj => by simp at hj)
    · obtain ⟨g, i, rfl, hc⟩ := hsrc.2 (by omega)
      exact run_convert_bytes_back (P := P) w s dt E ⟨g, i, none⟩ c l hs he hd (fun j hj => by
        rw [add_none]
        exact hc j _ (by simp [List.getElem?_eq_getElem hj]))
  simp [execOp, h x _ hx, hrun]
section
variable {x y : Operand} {t yt : TypeId} {a b : List UInt8}
theorem R_strEql (hx : ev e x = some (.string (str a))) (hy : ev e y = some (.string (str b))) : Runs P e w ⟨dst, .binOp .eql t x y yt, ty, pos, af, gd⟩ (.bool (decide (a = b))) w := fun ρ h => by
  have : (a == b) = decide (a = b) := by rw [Bool.eq_iff_iff]; simp
  simp [execOp, h x _ hx, h y _ hy, eqGuard, binOp, Op.stringOp, str, this]
theorem R_strNeq (hx : ev e x = some (.string (str a))) (hy : ev e y = some (.string (str b))) : Runs P e w ⟨dst, .binOp .neq t x y yt, ty, pos, af, gd⟩ (.bool (decide (a ≠ b))) w := fun ρ h => by
  have : (!(a == b)) = decide (a ≠ b) := by rw [Bool.eq_iff_iff]; simp
  simp only [execOp, h x _ hx, h y _ hy, eqGuard, binOp, Op.stringOp, str]
  simp only [ByteArray.toList_mk, this]
  rfl
theorem R_strEql_t (hx : ev e x = some (.string (str a))) (hy : ev e y = some (.string (str b))) (h : a = b) : Runs P e w ⟨dst, .binOp .eql t x y yt, ty, pos, af, gd⟩ (.bool true) w := by have := R_strEql (P := P) (w := w) (dst := dst) (t := t) (yt := yt) (ty := ty) (pos := pos) (af := af) (gd := gd) hx hy; rwa [decide_eq_true h] at this
theorem R_strEql_f (hx : ev e x = some (.string (str a))) (hy : ev e y = some (.string (str b))) (h : ¬ a = b) : Runs P e w ⟨dst, .binOp .eql t x y yt, ty, pos, af, gd⟩ (.bool false) w := by have := R_strEql (P := P) (w := w) (dst := dst) (t := t) (yt := yt) (ty := ty) (pos := pos) (af := af) (gd := gd) hx hy; rwa [decide_eq_false h] at this
theorem R_strNeq_t (hx : ev e x = some (.string (str a))) (hy : ev e y = some (.string (str b))) (h : a ≠ b) : Runs P e w ⟨dst, .binOp .neq t x y yt, ty, pos, af, gd⟩ (.bool true) w := by have := R_strNeq (P := P) (w := w) (dst := dst) (t := t) (yt := yt) (ty := ty) (pos := pos) (af := af) (gd := gd) hx hy; rwa [decide_eq_true h] at this
theorem R_strNeq_f (hx : ev e x = some (.string (str a))) (hy : ev e y = some (.string (str b))) (h : ¬ a ≠ b) : Runs P e w ⟨dst, .binOp .neq t x y yt, ty, pos, af, gd⟩ (.bool false) w := by have := R_strNeq (P := P) (w := w) (dst := dst) (t := t) (yt := yt) (ty := ty) (pos := pos) (af := af) (gd := gd) hx hy; rwa [decide_eq_false h] at this
end
end
end Go.EW
