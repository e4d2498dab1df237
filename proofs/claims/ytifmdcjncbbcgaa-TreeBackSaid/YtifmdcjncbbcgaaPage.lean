/- Pages, seals, numbers in blocks (package field). -/
import Derived.Test.YtifmdcjncbbcgaaField
set_option linter.unusedVariables false
set_option linter.unusedSimpArgs false
set_option maxRecDepth 100000
namespace Go.Proofs.Ytifmdcjncbbcgaa
open Go.EW Go.RowKit

def U8 (t : TypeId) : Prop := t = 5
instance (t : TypeId) : Decidable (U8 t) := inferInstanceAs (Decidable (_ = _))
def sealedS (l : List UInt8) : Bool := decide (l.length = 64) && decide ((leN (l.drop 60) : Int) = sumS (l.take 60))
def sealS (l : List UInt8) : List UInt8 := l.take 60 ++ leB (sumS (l.take 60)).toNat 4
theorem sealS_length {l : List UInt8} (h : l.length = 64) : (sealS l).length = 64 := by simp [sealS, leB_length, h]
theorem sealed_ok {w : World} {A : Option Addr} {l : List UInt8} {c : Nat} (hl : BS w A l) (hc : l.length ≤ c) (hm : l.length ≤ 9223372036854775807) :
    Ret Try.prog 44 [.slice A l.length c] w fun v w' => v = .bool (sealedS l) ∧ Mods No w w' := by
  by_cases h64 : l.length = 64
  · obtain ⟨g, o, rfl⟩ := hl.addr (by omega)
    have hd := hl.drop 60 (by omega)
    have ht := hl.take 60 (by omega)
    have hdl : (l.drop 60).length = 4 := by simp [h64]
    have htl : (l.take 60).length = 60 := by simp [h64]
    have hs := sumS_range (l.take 60)
    have hg := fun w1 (hm : Mods No w w1) => get_b_ok (c := c - 60) (hd.no hm) (by omega)
    have hsum := fun w1 (hm : Mods No w w1) => sum_ok (c := c) (ht.no hm) (by omega)
    simp only [hdl] at hg
    simp only [htl] at hsum
    rw [h64]
    refine Ret.enter Try.func44 rfl Try.ntmps44 rfl ?_
    simp only [argEnv, Nat.reduceAdd]
    refine E_seqR ?_
    refine EL_val (R_assign rfl) rfl rfl rfl ?_
    refine EL_nil ?_
    refine E_seqD (fun w' => [(6, fun w'' => w'' = w')]) 14 K.mix rfl ?_
    intro w2 hm2 hh2
    refine EA_pure 0 rfl (fun _ => R_move rfl) (by kernel_rfl) rfl rfl rfl ?_
    refine EA_pure 1 rfl (fun _ => R_lenSlice rfl Try.underlying56) (by kernel_rfl) rfl rfl rfl ?_
    first | refine EA_pure 2 rfl (fun _ => R_eql_t rfl rfl (by omega)) (by kernel_rfl) rfl rfl rfl ?_ | refine EA_pure 2 rfl (fun _ => R_eql_f rfl rfl (by omega)) (by kernel_rfl) rfl rfl rfl ?_
    refine EA_pure 3 rfl (fun _ => R_move rfl) (by kernel_rfl) rfl rfl rfl ?_
    first | refine EA_pure 4 rfl (fun _ => R_move rfl) (by kernel_rfl) rfl rfl rfl ?_ | refine EA_not 4 rfl (by kernel_rfl) rfl rfl rfl ?_
    refine EA_pure 5 rfl (fun _ => R_sliceL (60) (by omega) (by omega) (by omega) rfl rfl Try.underlying56 K.sz5) (by kernel_rfl) rfl rfl rfl ?_
    first | refine EA_pure 7 rfl (fun _ => R_move rfl) (by kernel_rfl) rfl rfl rfl ?_ | refine EA_not 7 rfl (by kernel_rfl) rfl rfl rfl ?_
    refine EA_pure 8 rfl (fun _ => R_sliceH (60) (by omega) (by omega) rfl rfl Try.underlying56 K.sz5 (by rintro _ ⟨⟩ <;> rfl)) (by kernel_rfl) rfl rfl rfl ?_
    refine EA_one 6 rfl (by kernel_rfl) rfl ⟨fun _ => rfl, trivial⟩ ?_
    refine EO_call K.bd55 rfl rfl (hg w2 hm2) ?_
    rintro _ _ ⟨rfl, rfl⟩
    refine EA_one 9 rfl (by kernel_rfl) rfl (Holds.done (by kernel_rfl)) ?_
    refine EO_call K.bd56 rfl rfl (hsum _ hm2) ?_
    rintro _ _ ⟨rfl, rfl⟩
    refine EA_pure 10 rfl (fun _ => R_convInt (sumS (l.take 60)) (wrap_i64_in (by omega) (by omega)) rfl Try.underlying86 Try.underlying3) (by kernel_rfl) rfl rfl rfl ?_
    refine EA_pure 11 rfl (fun _ => R_eql rfl rfl) (by kernel_rfl) rfl rfl rfl ?_
    first | refine EA_pure 12 rfl (fun _ => R_pick_t rfl rfl) (by kernel_rfl) rfl rfl rfl ?_ | refine EA_pure 12 rfl (fun _ => R_pick_f rfl rfl) (by kernel_rfl) rfl rfl rfl ?_
    refine EA_pure 13 rfl (fun _ => R_assign rfl) (by kernel_rfl) rfl rfl rfl ?_
    refine EA_done (by kernel_rfl) (Holds.done (by kernel_rfl)) ?_
    refine E_ret ?_
    refine ret1 (.inr rfl) rfl rfl ?_
    exact ⟨by simp [sealedS, h64], hm2⟩
  · refine Ret.enter Try.func44 rfl Try.ntmps44 rfl ?_
    simp only [argEnv, Nat.reduceAdd]
    refine E_seqR ?_
    refine EL_val (R_assign rfl) rfl rfl rfl ?_
    refine EL_nil ?_
    refine E_seqD (fun w' => [(1000, fun w'' => w'' = w')]) 14 K.mix rfl ?_
    intro w2 hm2 hh2
    refine EA_pure 0 rfl (fun _ => R_move rfl) (by kernel_rfl) rfl rfl rfl ?_
    refine EA_pure 1 rfl (fun _ => R_lenSlice rfl Try.underlying56) (by kernel_rfl) rfl rfl rfl ?_
    first | refine EA_pure 2 rfl (fun _ => R_eql_t rfl rfl (by omega)) (by kernel_rfl) rfl rfl rfl ?_ | refine EA_pure 2 rfl (fun _ => R_eql_f rfl rfl (by omega)) (by kernel_rfl) rfl rfl rfl ?_
    refine EA_pure 3 rfl (fun _ => R_move rfl) (by kernel_rfl) rfl rfl rfl ?_
    refine EA_not 4 rfl (by kernel_rfl) rfl rfl rfl ?_
    refine EA_not 5 rfl (by kernel_rfl) rfl rfl rfl ?_
    refine EA_not 6 rfl (by kernel_rfl) rfl rfl rfl ?_
    refine EA_not 7 rfl (by kernel_rfl) rfl rfl rfl ?_
    refine EA_not 8 rfl (by kernel_rfl) rfl rfl rfl ?_
    refine EA_not 9 rfl (by kernel_rfl) rfl rfl rfl ?_
    refine EA_not 10 rfl (by kernel_rfl) rfl rfl rfl ?_
    refine EA_not 11 rfl (by kernel_rfl) rfl rfl rfl ?_
    first | refine EA_pure 12 rfl (fun _ => R_pick_t rfl rfl) (by kernel_rfl) rfl rfl rfl ?_ | refine EA_pure 12 rfl (fun _ => R_pick_f rfl rfl) (by kernel_rfl) rfl rfl rfl ?_
    refine EA_pure 13 rfl (fun _ => R_assign rfl) (by kernel_rfl) rfl rfl rfl ?_
    refine EA_done (by kernel_rfl) ⟨fun _ => rfl, trivial⟩ ?_
    refine E_ret ?_
    refine ret1 (.inr rfl) rfl rfl ?_
    exact ⟨by simp [sealedS, h64], hm2⟩
theorem seal_ok {w : World} {A : Option Addr} {l : List UInt8} {c : Nat} (hl : BS w A l) (hc : l.length ≤ c) (h64 : l.length = 64) :
    Ret Try.prog 60 [.slice A 64 c] w fun v w' => ∃ u, v = .tuple #[u, .int .i64 0] ∧ OB w.heap.size w' u (sealS l) ∧ Mods No w w' := by
  obtain ⟨g, o, rfl⟩ := hl.addr (by omega)
  have htl : (l.take 60).length = 60 := by simp [h64]
  have hs := sumS_range (l.take 60)
  have hcl := bclone_ok (c := c) hl (by omega) (by omega)
  rw [h64] at hcl
  obtain ⟨s, hss⟩ : ∃ s : Nat, sumS (l.take 60) = (s : Int) := ⟨(sumS (l.take 60)).toNat, by omega⟩
  refine Ret.enter Try.func60 rfl Try.ntmps60 rfl ?_
  simp only [argEnv, Nat.reduceAdd]
  refine E_seqR ?_
  refine EL_val (R_assign rfl) rfl rfl rfl ?_
  refine EL_val (R_assign rfl) rfl rfl rfl ?_
  refine EL_nil ?_
  refine E_seq ?_
  refine E_seqR ?_
  refine EL_val (R_move rfl) rfl rfl rfl ?_
  refine EL_val (R_lenSlice rfl Try.underlying56) rfl rfl rfl ?_
  first | refine EL_val (R_neq_t rfl rfl (by omega)) rfl rfl rfl ?_ | refine EL_val (R_neq_f rfl rfl (by omega)) rfl rfl rfl ?_
  refine EL_nil ?_
  refine E_cond_f rfl ?_
  refine E_skip ?_
  refine thenQ_n ?_
  refine E_seqR ?_
  refine EL_val (R_move rfl) rfl rfl rfl ?_
  refine EL_step rfl ?_
  refine EO_call K.bd63 rfl rfl (hcl) ?_
  rintro u w1 ⟨ho, hm1⟩
  (obtain ⟨g1, cap1, rfl, hg1, hcap, hmax, ⟨cur, hbk, hcur⟩, hbs⟩ := ho.form (by omega); rw [h64] at hcap ⊢)
  refine EL_val (R_assign rfl) rfl rfl rfl ?_
  refine EL_nil ?_
  refine E_seqD (fun w' => [(4, fun w'' => w'' = w')]) 6 K.mix rfl ?_
  intro w2 hm2 hh2
  (have hsum := sum_ok (c := c) ((hl.take 60 (by omega)).no (hm1.trans hm2)) (by omega); rw [htl] at hsum)
  refine EA_pure 0 rfl (fun _ => R_move rfl) (by kernel_rfl) rfl rfl rfl ?_
  refine EA_pure 1 rfl (fun _ => R_sliceL (60) (by omega) (by omega) (by omega) rfl rfl Try.underlying56 K.sz5) (by kernel_rfl) rfl rfl rfl ?_
  refine EA_pure 2 rfl (fun _ => R_move rfl) (by kernel_rfl) rfl rfl rfl ?_
  refine EA_pure 3 rfl (fun _ => R_sliceH (60) (by omega) (by omega) rfl rfl Try.underlying56 K.sz5 (by rintro _ ⟨⟩ <;> rfl)) (by kernel_rfl) rfl rfl rfl ?_
  refine EA_one 4 rfl (by kernel_rfl) rfl ⟨fun _ => rfl, trivial⟩ ?_
  refine EO_call K.bd56 rfl rfl (hsum) ?_
  rintro _ _ ⟨rfl, rfl⟩
  refine EA_one 5 rfl (by kernel_rfl) rfl (Holds.done (by kernel_rfl)) ?_
  refine EO_call K.bd59 rfl rfl ((by rw [hss]; exact put_b_ok (hm2.bk' hbk) (by omega) (by omega) (by omega))) ?_
  rintro _ w3 hu3
  refine EA_done (by kernel_rfl) (Holds.done (by kernel_rfl)) ?_
  refine E_seqR ?_
  refine EL_val (R_move rfl) rfl rfl rfl ?_
  refine EL_val (R_assign rfl) rfl rfl rfl ?_
  refine EL_val (R_assign rfl) rfl rfl rfl ?_
  refine EL_nil ?_
  refine E_ret ?_
  refine ret2 (.inr rfl) rfl rfl rfl ?_
  have h1 := own_splice (xs := bval l) (ys := bval (leB s 4)) (o := 60) (m := 64) (by unfold OB at ho; rw [h64] at ho; exact hm2.own ho (fun _ _ h => h)) (hm2.bk' hbk) (by simpa using hu3) (by simp [bval_length, leB_length]) (by omega)
  refine ⟨_, rfl, ?_, TM.no_of (T := U8) (B := w.heap.size) (hm1.trans hm2) (TM.upd hu3 (hm2.bk' hbk) hg1 rfl) (Nat.le_refl _)⟩
  unfold OB
  rw [sealS_length h64]
  have h2 : (bval l).take 60 ++ bval (leB s 4) ++ (bval l).drop (60 + (bval (leB s 4)).length) = bval (sealS l) := by
    rw [bval_length, leB_length, List.drop_eq_nil_of_le (by rw [bval_length]; omega), List.append_nil]
    unfold sealS bval
    rw [List.map_append, List.map_take, hss, Int.toNat_natCast]
  rw [h2] at h1
  exact h1
/-- a page: a struct that holds its bytes -/
def PageAt (base : Nat) (w : World) (p : Nat) (l : List UInt8) : Prop := ∃ v, Bk w p #[v] 95 ∧ base ≤ p ∧ OB base w v l ∧ l.length = 64
theorem PageAt.no {base : Nat} {w w' : World} {p : Nat} {l : List UInt8} (h : PageAt base w p l) (hm : Mods No w w') : PageAt base w' p l := by
  obtain ⟨v, h1, h2, h3, h4⟩ := h
  exact ⟨v, hm.bk' h1, h2, hm.own h3 fun _ _ h => h, h4⟩
def zerosB (n : Nat) : List UInt8 := List.replicate n 0
theorem bval_zeros (n : Nat) : bval (zerosB n) = List.replicate n (.int .u8 0) := by simp [bval, zerosB]
theorem madeCells_one (z : Value) (n : Nat) : madeCells #[z] n = Array.replicate n z := by
  apply Array.ext_getElem?
  intro k
  by_cases hk : k < n
  · rw [madeCells_at hk (by simp)]
    simp [hk, Nat.mod_one]
  · rw [Array.getElem?_eq_none (by rw [size_madeCells]; omega), Array.getElem?_eq_none (by simp; omega)]
theorem newpage_ok {w : World} {l : List UInt8} (hl : l.length ≤ 64) :
    Ret Try.prog 49 [.string (str l)] w fun v w' => ∃ p, v = ptr p ∧ PageAt w.heap.size w' p (l ++ zerosB (64 - l.length)) ∧ Mods No w w' := by
  refine Ret.enter Try.func49 rfl Try.ntmps49 rfl ?_
  simp only [argEnv, Nat.reduceAdd]
  refine E_seqR ?_
  refine EL_val (R_assign rfl) rfl rfl rfl ?_
  refine EL_nil ?_
  refine E_seqR ?_
  refine EL_step rfl ?_
  refine EO_makeSlice 64 64 rfl rfl Try.underlying56 K.zr5 K.sz5 K.by5 (by first | rfl | omega) (by first | rfl | omega) (by omega) (by omega) (by omega) rfl ?_
  intro w1 hn1
  refine EL_val (R_build K.zr95 K.pl95 rfl rfl) rfl rfl rfl ?_
  refine EL_step rfl ?_
  refine EO_box rfl rfl ?_
  intro w2 hn2
  refine EL_val (R_assign rfl) rfl rfl rfl ?_
  refine EL_nil ?_
  refine E_seqR ?_
  refine EL_val (R_move rfl) rfl rfl rfl ?_
  refine EL_val (R_nilCheck rfl) rfl rfl rfl ?_
  refine EL_val (R_fieldAddr rfl K.fT95_0) rfl rfl rfl ?_
  refine EL_val (R_load rfl K.ag56 (hn2.bk.cell rfl)) rfl rfl rfl ?_
  refine EL_val (R_move rfl) rfl rfl rfl ?_
  refine EL_step rfl ?_
  refine EO_copyStr (hn2.mods.bk' hn1.bk) hl (by rw [size_madeCells]; omega) rfl rfl Try.underlying56 K.sz5 rfl ?_
  intro w3 hu3
  refine EL_nil ?_
  refine E_seqR ?_
  refine EL_val (R_move rfl) rfl rfl rfl ?_
  refine EL_val (R_assign rfl) rfl rfl rfl ?_
  refine EL_nil ?_
  refine E_ret ?_
  refine ret1 (.inr rfl) rfl rfl ?_
  have hs1 := hn1.size
  have ho : w1.ownsRow w.heap.size 5 1 (.slice (some ⟨w.heap.size, 0, none⟩) 64 64) 64 (madeCells (Value.int .u8 0).cells (64 * 1)).toList := hn1.own (by rw [size_madeCells]) (Nat.le_refl _) (by simp only [maxLen]; omega)
  have h1 := own_splice (ys := bval l) (o := 0) (hn2.mods.own ho (fun _ _ h => h)) (hn2.mods.bk' hn1.bk) (by simpa [bval] using hu3) (by rw [bval_length]; omega) (by omega)
  have hb3 : Bk w3 w1.heap.size #[.slice (some ⟨w.heap.size, 0, none⟩) 64 64] 95 := hu3.mods.bk hn2.bk (by omega)
  refine ⟨w1.heap.size, rfl, ⟨_, hb3, by omega, ?_, by simp [zerosB]; omega⟩, TM.no_of (T := U8) (B := w.heap.size) (hn1.mods.trans hn2.mods) (TM.upd hu3 (hn2.mods.bk' hn1.bk) (Nat.le_refl _) rfl) (Nat.le_refl _)⟩
  unfold OB
  have h2 : (madeCells (Value.int .u8 0).cells (64 * 1)).toList = List.replicate 64 (.int .u8 0) := by
    show (madeCells #[Value.int .u8 0] 64).toList = _
    rw [madeCells_one]; simp
  have h3 : (l ++ zerosB (64 - l.length)).length = 64 := by simp [zerosB]; omega
  rw [h3]
  rw [h2, List.take_zero, List.nil_append, bval_length, Nat.zero_add, List.drop_replicate] at h1
  rw [show bval (l ++ zerosB (64 - l.length)) = bval l ++ List.replicate (64 - l.length) (.int .u8 0) from by rw [← bval_zeros]; simp [bval]]
  exact h1
def ival (ks : List Int) : List Value := ks.map fun k => Value.int .i64 k
theorem ival_length (ks : List Int) : (ival ks).length = ks.length := by simp [ival]
theorem ival_one {ks : List Int} : ∀ v ∈ ival ks, v.oneCell' = true := by
  intro v hv
  obtain ⟨b, _, rfl⟩ := List.mem_map.1 hv
  rfl
/-- what a slice of ints holds -/
def IS (w : World) (A : Option Addr) (ks : List Int) : Prop := Src w A ks.length 1 (ival ks)
theorem IS.no {w w' : World} {A : Option Addr} {ks : List Int} (h : IS w A ks) (hm : Mods No w w') : IS w' A ks := Src.mods h hm fun _ _ _ h => h
theorem IS.cell {w : World} {A : Option Addr} {ks : List Int} (h : IS w A ks) {i : Nat} (hi : i < ks.length) : ∃ g o, A = some ⟨g, o, none⟩ ∧ w.cell? ⟨g, o + i, none⟩ = some (.int .i64 ks[i]) := by
  obtain ⟨g, o, hA, hc⟩ := h.2 (by omega)
  exact ⟨g, o, hA, hc i _ (by simp [ival, List.getElem?_eq_getElem hi])⟩
/-- not among what may change -/
def Off (T : TypeId → Prop) (B : Nat) (w : World) (A : Option Addr) : Prop := ∀ g i, A = some ⟨g, i, none⟩ → g < w.heap.size ∧ ¬ ftT T B w g
theorem Off.tm {T : TypeId → Prop} {B : Nat} {w w' : World} {A : Option Addr} (h : Off T B w A) (hm : TM T B w w') : Off T B w' A := fun g i hA => by
  obtain ⟨h1, h2⟩ := h g i hA
  exact ⟨Nat.lt_of_lt_of_le h1 hm.size, fun hf => h2 (ftT_back hm (fun _ _ h => h) h1 hf)⟩
theorem IS.tm {T : TypeId → Prop} {B : Nat} {w w' : World} {A : Option Addr} {ks : List Int} (h : IS w A ks) (ho : Off T B w A) (hm : TM T B w w') : IS w' A ks := Src.mods h hm fun g i hA => (ho g i hA).2
/-- a number's bytes in a block -/
def putAt (l : List UInt8) (o : Nat) (ys : List UInt8) : List UInt8 := l.take o ++ ys ++ l.drop (o + ys.length)
theorem putAt_length {l ys : List UInt8} {o : Nat} (h : o + ys.length ≤ l.length) : (putAt l o ys).length = l.length := by simp [putAt]; omega
def numB (k : Int) (size : Nat) : List UInt8 := leB (k % 4294967296).toNat size
theorem numB_length (k : Int) (size : Nat) : (numB k size).length = size := leB_length _ _
def setN (l : List UInt8) (a size : Nat) (ks : List Int) : Nat → List UInt8
  | 0 => l
  | i + 1 => putAt (setN l a size ks i) (a + i * size) (numB (ks.getD i 0) size)
def setS (l : List UInt8) (a size : Nat) (ks : List Int) : List UInt8 := setN l a size ks ks.length
theorem setN_length {l : List UInt8} {a size : Nat} {ks : List Int} : ∀ (i : Nat), a + i * size ≤ l.length → (setN l a size ks i).length = l.length
  | 0, _ => rfl
  | i + 1, h => by
    have hi : (i + 1) * size = i * size + size := Nat.succ_mul i size
    have h1 := setN_length (l := l) (a := a) (size := size) (ks := ks) i (by omega)
    rw [setN, putAt_length (by rw [numB_length, h1]; omega), h1]
theorem pageset_ok {w : World} {base p : Nat} {l : List UInt8} (h : PageAt base w p l) {a size : Nat} {A : Option Addr} {ks : List Int} {c : Nat} (hk : IS w A ks) (ho : Off U8 base w A) (hs : size ≤ 4) (hs1 : 1 ≤ size) (hfit : a + ks.length * size ≤ 64) (hks : ks.length ≤ 1048576) (ha : a ≤ 64) :
    Ret Try.prog 50 [ptr p, .int .i64 (a : Int), .int .i64 (size : Int), .slice A ks.length c] w fun v w' => v = ptr p ∧ PageAt base w' p (setS l a size ks) ∧ TM U8 base w w' := by
  refine Ret.enter Try.func50 rfl Try.ntmps50 rfl ?_
  simp only [argEnv, Nat.reduceAdd]
  refine E_seqR ?_
  refine EL_val (R_assign rfl) rfl rfl rfl ?_
  refine EL_nil ?_
  refine E_seq ?_
  refine E_seqR ?_
  refine EL_val (R_move rfl) rfl rfl rfl ?_
  refine EL_val (R_lenSlice rfl Try.underlying22) rfl rfl rfl ?_
  refine EL_val (R_move rfl) rfl rfl rfl ?_
  refine EL_nil ?_
  refine E_block ?_
  refine E_loop (fun m' e' w' => ∃ i AA, i ≤ ks.length ∧ m' = ks.length - i ∧ e' = [(0, ptr p), (1, .int .i64 (a : Int)), (2, .int .i64 (size : Int)), (11, .slice (AA) ks.length c), (12, .int .i64 (ks.length : Int)), (13, .int .i64 ((i : Nat) : Int))] ∧ IS w' AA ks ∧ Off U8 base w' AA ∧ PageAt base w' p (setN l a size ks i) ∧ TM U8 base w w') ks.length [(0, ptr p), (1, .int .i64 (a : Int)), (2, .int .i64 (size : Int)), (11, .slice (A) ks.length c), (12, .int .i64 (ks.length : Int)), (13, .int .i64 ((0 : Nat) : Int))] ⟨rfl, rfl, rfl, rfl, rfl, rfl, trivial⟩ ⟨0, A, by omega, by omega, rfl, hk, ho, h, TM.refl⟩ ?_
  clear hk ho h
  rintro m' e w' ⟨i, A, hi, rfl, rfl, hk, ho, hp, hm⟩
  by_cases hlt : i < ks.length
  · obtain ⟨g, o, rfl, hcell⟩ := hk.cell hlt
    obtain ⟨v, hbk, hbp, hob, h64⟩ := hp
    obtain ⟨gv, capv, rfl, hgv, hcap, hmax, ⟨cur, hcb, hcs⟩, _⟩ := hob.form (by omega)
    rw [h64] at hbk hcap
    have hsz : (i + 1) * size ≤ ks.length * size := Nat.mul_le_mul_right _ (by omega)
    have hss : (i + 1) * size = i * size + size := Nat.succ_mul i size
    have hmul : (i : Int) * (size : Int) = ((i * size : Nat) : Int) := by push_cast; rfl
    obtain ⟨q, hq⟩ : ∃ q : Nat, q = (ks[i] % 4294967296).toNat := ⟨_, rfl⟩
    have hqv : IntKind.u32.wrap ks[i] = (q : Int) := by
      simp [IntKind.wrap, IntKind.bits, IntKind.signed]
      omega

    refine E_seqR ?_
    first | refine EL_val (R_lss_t rfl rfl (by omega)) rfl rfl rfl ?_ | refine EL_val (R_lss_f rfl rfl (by omega)) rfl rfl rfl ?_
    refine EL_nil ?_
    refine E_seq ?_
    refine E_cond_t rfl ?_
    refine E_skip ?_
    refine thenQ_n ?_
    refine E_seq ?_
    refine E_block ?_
    refine E_seqR ?_
    refine EL_val (R_move rfl) rfl rfl rfl ?_
    refine EL_val (R_indexAddr rfl rfl Try.underlying22 K.sz3 (m := i) rfl hlt) rfl rfl rfl ?_
    refine EL_val (R_load rfl K.ag3 ((by rw [Nat.mul_one]; exact hcell))) rfl rfl rfl ?_
    refine EL_val (R_assign rfl) rfl rfl rfl ?_
    refine EL_val (R_assign rfl) rfl rfl rfl ?_
    refine EL_nil ?_
    refine E_region ?_
    refine EL_val (R_move rfl) rfl rfl rfl ?_
    refine EL_val (R_nilCheck rfl) rfl rfl rfl ?_
    refine EL_val (R_fieldAddr rfl K.fT95_0) rfl rfl rfl ?_
    refine EL_val (R_load rfl K.ag56 (hbk.cell rfl)) rfl rfl rfl ?_
    refine EL_val (R_move rfl) rfl rfl rfl ?_
    refine EL_val (R_move rfl) rfl rfl rfl ?_
    refine EL_val (R_move rfl) rfl rfl rfl ?_
    refine EL_val (R_mulE (((i * size : Nat) : Int)) rfl rfl (by omega) (by omega) (by omega)) rfl rfl rfl ?_
    refine EL_val (R_addE (((a + i * size : Nat) : Int)) rfl rfl (by omega) (by omega) (by omega)) rfl rfl rfl ?_
    refine EL_val (R_move rfl) rfl rfl rfl ?_
    refine EL_val (R_move rfl) rfl rfl rfl ?_
    refine EL_val (R_move rfl) rfl rfl rfl ?_
    refine EL_val (R_mulE (((i * size : Nat) : Int)) rfl rfl (by omega) (by omega) (by omega)) rfl rfl rfl ?_
    refine EL_val (R_addE (((a + i * size : Nat) : Int)) rfl rfl (by omega) (by omega) (by omega)) rfl rfl rfl ?_
    refine EL_val (R_move rfl) rfl rfl rfl ?_
    refine EL_val (R_addE (((a + i * size + size : Nat) : Int)) rfl rfl (by omega) (by omega) (by omega)) rfl rfl rfl ?_
    refine EL_val (R_sliceLH (a + i * size) (a + i * size + size) (by omega) (by omega) (by omega) (by omega) (by omega) rfl rfl rfl Try.underlying56 K.sz5) rfl rfl rfl ?_
    refine EL_val (R_move rfl) rfl rfl rfl ?_
    refine EL_val (R_convInt (q : Int) hqv rfl Try.underlying3 Try.underlying86) rfl rfl rfl ?_
    refine EL_step rfl ?_
    refine EO_call K.bd59 rfl rfl ((by rw [show a + i * size + size - (a + i * size) = size from by omega]; exact put_b_ok hcb (by omega) hs (by omega))) ?_
    rintro _ w3 hu3
    refine EL_nil ?_
    refine inB_n ?_
    refine thenQ_n ?_
    refine E_region ?_
    first | refine EL_val (R_inc rfl (by omega)) rfl rfl rfl ?_ | refine EL_val (R_add_in rfl rfl (by omega) (by omega)) rfl rfl rfl ?_
    refine EL_val (R_move rfl) rfl rfl rfl ?_
    refine EL_nil ?_
    refine thenQ_n ?_
    have h1 := own_splice (xs := bval (setN l a size ks i)) (ys := bval (leB q size)) (o := a + i * size) (m := 64) (by unfold OB at hob; rw [h64] at hob; exact hob) hcb (by simpa using hu3) (by rw [bval_length, leB_length]; omega) (by omega)
    have hm3 : TM U8 base w' w3 := TM.upd hu3 hcb hgv rfl
    refine ⟨rfl, ks.length - (i + 1), [(0, ptr p), (1, .int .i64 (a : Int)), (2, .int .i64 (size : Int)), (11, .slice (some ⟨g, o, none⟩) ks.length c), (12, .int .i64 (ks.length : Int)), (13, .int .i64 ((i + 1 : Nat) : Int))], by omega, ⟨rfl, rfl, rfl, rfl, rfl, rfl, trivial⟩, i + 1, _, by omega, rfl, rfl, hk.tm ho hm3, ho.tm hm3, ⟨_, hm3.bk hbk (by decide), hbp, ?_, ?_⟩, hm.trans hm3⟩
    · unfold OB
      have e1 : (setN l a size ks (i + 1)).length = 64 := by rw [setN, putAt_length (by rw [numB_length, h64]; omega), h64]
      rw [e1]
      have e2 : (bval (setN l a size ks i)).take (a + i * size) ++ bval (leB q size) ++ (bval (setN l a size ks i)).drop (a + i * size + (bval (leB q size)).length) = bval (setN l a size ks (i + 1)) := by
        rw [setN, putAt, numB, List.getD_eq_getElem?_getD, List.getElem?_eq_getElem hlt, Option.getD_some, ← hq]
        simp [bval]
      rw [e2] at h1
      exact h1
    · rw [setN, putAt_length (by rw [numB_length, h64]; omega), h64]
  · have hi' : i = ks.length := by omega
    subst hi'

    refine E_seqR ?_
    first | refine EL_val (R_lss_t rfl rfl (by omega)) rfl rfl rfl ?_ | refine EL_val (R_lss_f rfl rfl (by omega)) rfl rfl rfl ?_
    refine EL_nil ?_
    refine E_seq ?_
    refine E_cond_f rfl ?_
    refine E_exit ?_
    refine thenQ_e ?_
    refine thenQ_e ?_
    refine inB_eq rfl ?_
    refine thenQ_n ?_
    refine E_seqR ?_
    refine EL_val (R_move rfl) rfl rfl rfl ?_
    refine EL_val (R_assign rfl) rfl rfl rfl ?_
    refine EL_nil ?_
    refine E_ret ?_
    refine ret1 (.inr rfl) rfl rfl ?_
    exact ⟨rfl, hp, hm⟩
theorem pageseal_ok {w : World} {base p : Nat} {l : List UInt8} (h : PageAt base w p l) :
    Ret Try.prog 51 [ptr p] w fun v w' => OB w.heap.size w' v (sealS l) ∧ Mods No w w' := by
  obtain ⟨v, hbk, hbp, hob, h64⟩ := h
  obtain ⟨gv, capv, rfl, hgv, hcap, hmax, ⟨cur, hcb, hcs⟩, hbs⟩ := hob.form (by omega)
  have hc : w.cell? ⟨p, 0 + 0, none⟩ = some (.slice (some ⟨gv, 0, none⟩) 64 capv) := by rw [← h64]; exact hbk.cell rfl
  refine Ret.enter Try.func51 rfl Try.ntmps51 rfl ?_
  simp only [argEnv, Nat.reduceAdd]
  refine E_seqR ?_
  refine EL_val (R_assign rfl) rfl rfl rfl ?_
  refine EL_nil ?_
  refine E_seqR ?_
  refine EL_val (R_move rfl) rfl rfl rfl ?_
  refine EL_val (R_nilCheck rfl) rfl rfl rfl ?_
  refine EL_val (R_fieldAddr rfl K.fT95_0) rfl rfl rfl ?_
  refine EL_val (R_load rfl K.ag56 (hc)) rfl rfl rfl ?_
  refine EL_step rfl ?_
  refine EO_call K.bd60 rfl rfl (seal_ok hbs hcap h64) ?_
  rintro _ w1 ⟨u, rfl, ho, hm⟩
  refine EL_val (R_move rfl) rfl rfl rfl ?_
  refine EL_val (R_extract rfl rfl) rfl rfl rfl ?_
  refine EL_val (R_extract rfl rfl) rfl rfl rfl ?_
  refine EL_val (R_assign rfl) rfl rfl rfl ?_
  refine EL_val (R_assign rfl) rfl rfl rfl ?_
  refine EL_nil ?_
  refine E_seqR ?_
  refine EL_val (R_move rfl) rfl rfl rfl ?_
  refine EL_val (R_assign rfl) rfl rfl rfl ?_
  refine EL_nil ?_
  refine E_ret ?_
  refine ret1 (.inr rfl) rfl rfl ?_
  exact ⟨ho, hm⟩
theorem num_ok {w : World} {A : Option Addr} {l : List UInt8} {c a size : Nat} (hl : BS w A l) (hc : l.length ≤ c) (hs : size ≤ 4) (h1 : 1 ≤ size) (hfit : a + size ≤ l.length) (hm : l.length ≤ 1048576) :
    Ret Try.prog 57 [.slice A l.length c, .int .i64 (a : Int), .int .i64 (size : Int)] w fun v w' => v = .int .i64 (leN ((l.drop a).take size) : Int) ∧ w = w' := by
  obtain ⟨g, o, rfl⟩ := hl.addr (by omega)
  have hlen : ((l.drop a).take size).length = size := by simp; omega
  have hg := get_b_ok (c := c - a) ((hl.drop a (by omega)).take size (by simp; omega)) (by omega)
  rw [hlen] at hg
  refine Ret.enter Try.func57 rfl Try.ntmps57 rfl ?_
  simp only [argEnv, Nat.reduceAdd]
  refine E_seqR ?_
  refine EL_val (R_assign rfl) rfl rfl rfl ?_
  refine EL_nil ?_
  refine E_seqR ?_
  refine EL_val (R_move rfl) rfl rfl rfl ?_
  refine EL_val (R_move rfl) rfl rfl rfl ?_
  refine EL_val (R_move rfl) rfl rfl rfl ?_
  refine EL_val (R_move rfl) rfl rfl rfl ?_
  refine EL_val (R_addE (((a + size : Nat) : Int)) rfl rfl (by omega) (by omega) (by omega)) rfl rfl rfl ?_
  refine EL_val (R_sliceLH (a) (a + size) (by omega) (by omega) (by omega) (by omega) (by omega) rfl rfl rfl Try.underlying56 K.sz5) rfl rfl rfl ?_
  refine EL_step rfl ?_
  refine EO_call K.bd55 rfl rfl ((by rw [show a + size - a = size from by omega]; exact hg)) ?_
  rintro _ _ ⟨rfl, rfl⟩
  refine EL_val (R_assign rfl) rfl rfl rfl ?_
  refine EL_nil ?_
  refine E_ret ?_
  refine ret1 (.inr rfl) rfl rfl ?_
  exact ⟨rfl, rfl⟩
def numsS (l : List UInt8) (a size count : Nat) : List Int := (List.range count).map fun i => (leN ((l.drop (a + i * size)).take size) : Int)
theorem numsS_succ (l : List UInt8) (a size i : Nat) : numsS l a size (i + 1) = numsS l a size i ++ [(leN ((l.drop (a + i * size)).take size) : Int)] := by simp [numsS, List.range_succ]
theorem numsS_length (l : List UInt8) (a size i : Nat) : (numsS l a size i).length = i := by simp [numsS]
theorem nums_ok {w : World} {A : Option Addr} {l : List UInt8} {c a size count : Nat} (hl : BS w A l) (hc : l.length ≤ c) (hs : size ≤ 4) (h1 : 1 ≤ size) (hfit : a + count * size ≤ l.length) (hm : l.length ≤ 1048576) :
    Ret Try.prog 45 [.slice A l.length c, .int .i64 (a : Int), .int .i64 (size : Int), .int .i64 (count : Int)] w fun v w' => w'.ownsRow w.heap.size 3 1 v count (ival (numsS l a size count)) ∧ Mods No w w' := by
  have hcs : count ≤ count * size := Nat.le_mul_of_pos_right _ (by omega)
  refine Ret.enter Try.func45 rfl Try.ntmps45 rfl ?_
  simp only [argEnv, Nat.reduceAdd]
  refine E_seqR ?_
  refine EL_val (R_assign rfl) rfl rfl rfl ?_
  refine EL_nil ?_
  refine E_seqR ?_
  refine EL_val (R_assign rfl) rfl rfl rfl ?_
  refine EL_nil ?_
  refine E_seq ?_
  refine E_seqR ?_
  refine EL_val (R_move rfl) rfl rfl rfl ?_
  refine EL_val (R_move rfl) rfl rfl rfl ?_
  refine EL_nil ?_
  refine E_block ?_
  refine E_loop (fun m' e' w' => ∃ i v, i ≤ count ∧ m' = count - i ∧ e' = [(0, .slice A l.length c), (1, .int .i64 (a : Int)), (2, .int .i64 (size : Int)), (9, v), (11, .int .i64 (count : Int)), (12, .int .i64 ((i : Nat) : Int))] ∧ w'.ownsRow w.heap.size 3 1 v i (ival (numsS l a size i)) ∧ Mods No w w') count [(0, .slice A l.length c), (1, .int .i64 (a : Int)), (2, .int .i64 (size : Int)), (9, .slice none 0 0), (11, .int .i64 (count : Int)), (12, .int .i64 ((0 : Nat) : Int))] ⟨rfl, rfl, rfl, rfl, rfl, rfl, trivial⟩ ⟨0, _, by omega, by omega, rfl, World.ownsRow_nil _ _ _ _, Mods.refl _ _⟩ ?_
  rintro m' e w' ⟨i, v, hi, rfl, rfl, ho, hm'⟩
  by_cases hlt : i < count
  · have hsz : (i + 1) * size ≤ count * size := Nat.mul_le_mul_right _ (by omega)
    have hss : (i + 1) * size = i * size + size := Nat.succ_mul i size
    have hmul : (i : Int) * (size : Int) = ((i * size : Nat) : Int) := by push_cast; rfl
    have hn := num_ok (c := c) (a := a + i * size) (size := size) (hl.no hm') hc hs h1 (by omega) hm
    obtain ⟨Av, cv, rfl⟩ : ∃ A c, v = .slice A i c := by
      rcases ho.2 with ⟨hv, h0⟩ | ⟨g', cap, cur, hv, _⟩
      · exact ⟨none, 0, by rw [hv, h0]⟩
      · exact ⟨_, cap, hv⟩

    refine E_seqR ?_
    first | refine EL_val (R_lss_t rfl rfl (by omega)) rfl rfl rfl ?_ | refine EL_val (R_lss_f rfl rfl (by omega)) rfl rfl rfl ?_
    refine EL_nil ?_
    refine E_seq ?_
    refine E_cond_t rfl ?_
    refine E_skip ?_
    refine thenQ_n ?_
    refine E_seq ?_
    refine E_block ?_
    refine E_seqR ?_
    refine EL_val (R_move rfl) rfl rfl rfl ?_
    refine EL_val (R_assign rfl) rfl rfl rfl ?_
    refine EL_nil ?_
    refine E_region ?_
    refine EL_val (R_move rfl) rfl rfl rfl ?_
    refine EL_val (R_move rfl) rfl rfl rfl ?_
    refine EL_val (R_move rfl) rfl rfl rfl ?_
    refine EL_val (R_move rfl) rfl rfl rfl ?_
    refine EL_val (R_move rfl) rfl rfl rfl ?_
    refine EL_val (R_mulE (((i * size : Nat) : Int)) rfl rfl (by omega) (by omega) (by omega)) rfl rfl rfl ?_
    refine EL_val (R_addE (((a + i * size : Nat) : Int)) rfl rfl (by omega) (by omega) (by omega)) rfl rfl rfl ?_
    refine EL_val (R_move rfl) rfl rfl rfl ?_
    refine EL_step rfl ?_
    refine EO_call K.bd57 rfl rfl (hn) ?_
    rintro _ _ ⟨rfl, rfl⟩
    refine EL_step rfl ?_
    refine EO_buildSlice Try.underlying22 K.zr3 K.sz3 rfl rfl rfl (fill_whole rfl (by rw [size_madeCells])) rfl ?_
    intro w3 hn3
    refine EL_step rfl ?_
    refine EO_append rfl rfl Try.underlying22 K.sz3 K.zr3 K.by3 rfl (by decide) (hn3.mods.own ho fun _ _ h => h) (Src.bk hn3.bk 1 1 [.int .i64 (leN ((l.drop (a + i * size)).take size) : Int)] rfl (fun q u hq => by rw [Nat.zero_add]; show (#[.int .i64 (leN ((l.drop (a + i * size)).take size) : Int)] : Array Value)[q]? = some u; simpa using hq)) (by simp [Value.oneCell']) (by simp only [maxLen]; omega) (by omega) (by have := hm'.size; have := hn3.size; omega) rfl ?_
    intro v4 w4 ho4 hm4 hat4
    refine EL_val (R_assign rfl) rfl rfl rfl ?_
    refine EL_nil ?_
    refine inB_n ?_
    refine thenQ_n ?_
    refine E_region ?_
    first | refine EL_val (R_inc rfl (by omega)) rfl rfl rfl ?_ | refine EL_val (R_add_in rfl rfl (by omega) (by omega)) rfl rfl rfl ?_
    refine EL_val (R_move rfl) rfl rfl rfl ?_
    refine EL_nil ?_
    refine thenQ_n ?_
    refine ⟨rfl, count - (i + 1), [(0, .slice A l.length c), (1, .int .i64 (a : Int)), (2, .int .i64 (size : Int)), (9, v4), (11, .int .i64 (count : Int)), (12, .int .i64 ((i + 1 : Nat) : Int))], by omega, ⟨rfl, rfl, rfl, rfl, rfl, rfl, trivial⟩, i + 1, v4, by omega, rfl, rfl, ?_, ?_⟩
    · rw [numsS_succ, show ∀ x : Int, ival (numsS l a size i ++ [x]) = ival (numsS l a size i) ++ [.int .i64 x] from fun x => by simp [ival]]
      exact ho4
    · have h5 : TM (fun t => t = 3) w.heap.size w3 w4 := TM.self hm4 (hn3.mods.own ho fun _ _ h => h) (Nat.le_refl _) rfl
      exact TM.no_of (hm'.trans hn3.mods) h5 (Nat.le_refl _)
  · have hi' : i = count := by omega
    subst hi'

    refine E_seqR ?_
    first | refine EL_val (R_lss_t rfl rfl (by omega)) rfl rfl rfl ?_ | refine EL_val (R_lss_f rfl rfl (by omega)) rfl rfl rfl ?_
    refine EL_nil ?_
    refine E_seq ?_
    refine E_cond_f rfl ?_
    refine E_exit ?_
    refine thenQ_e ?_
    refine thenQ_e ?_
    refine inB_eq rfl ?_
    refine thenQ_n ?_
    refine E_seqR ?_
    refine EL_val (R_move rfl) rfl rfl rfl ?_
    refine EL_val (R_assign rfl) rfl rfl rfl ?_
    refine EL_nil ?_
    refine E_ret ?_
    refine ret1 (.inr rfl) rfl rfl ?_
    exact ⟨ho, hm'⟩
end Go.Proofs.Ytifmdcjncbbcgaa
