/- Heads (packages super and drydockref08): the same of any block. -/
import Derived.Test.YtobhogdndfbniaaRef4
set_option linter.unusedVariables false
set_option linter.unusedSimpArgs false
set_option maxRecDepth 100000
namespace Go.Proofs.Ytobhogdndfbniaa
open Go.EW Go.RowKit

theorem refin_ok {w : World} {a b c : Int} : Ret Try.prog 32 [.int .i64 a, .int .i64 b, .int .i64 c] w fun v w' => v = .bool (decide (b ≤ a ∧ a ≤ c)) ∧ w = w' := by
  by_cases h1 : b ≤ a
  · by_cases h2 : a ≤ c
    · refine Ret.enter Try.func32 rfl Try.ntmps32 rfl ?_
      simp only [argEnv, Nat.reduceAdd]
      refine E_seqR ?_
      refine EL_val (R_assign rfl) rfl rfl rfl ?_
      refine EL_nil ?_
      refine E_seqR ?_
      refine EL_val (R_move rfl) rfl rfl rfl ?_
      refine EL_val (R_move rfl) rfl rfl rfl ?_
      first | refine EL_val (R_geq_t rfl rfl (by omega)) rfl rfl rfl ?_ | refine EL_val (R_geq_f rfl rfl (by omega)) rfl rfl rfl ?_
      refine EL_val (R_move rfl) rfl rfl rfl ?_
      first | refine EL_val (R_move rfl) rfl rfl rfl ?_ | refine EL_not rfl rfl rfl ?_
      first | refine EL_val (R_move rfl) rfl rfl rfl ?_ | refine EL_not rfl rfl rfl ?_
      first | refine EL_val (R_leq_t rfl rfl (by omega)) rfl rfl rfl ?_ | refine EL_val (R_leq_f rfl rfl (by omega)) rfl rfl rfl ?_ | refine EL_not rfl rfl rfl ?_
      first | refine EL_val (R_pick_t rfl rfl) rfl rfl rfl ?_ | refine EL_val (R_pick_f rfl rfl) rfl rfl rfl ?_
      refine EL_val (R_assign rfl) rfl rfl rfl ?_
      refine EL_nil ?_
      refine E_ret ?_
      refine ret1 (.inr rfl) rfl rfl ?_
      exact ⟨by simp [h1, h2], rfl⟩
    · refine Ret.enter Try.func32 rfl Try.ntmps32 rfl ?_
      simp only [argEnv, Nat.reduceAdd]
      refine E_seqR ?_
      refine EL_val (R_assign rfl) rfl rfl rfl ?_
      refine EL_nil ?_
      refine E_seqR ?_
      refine EL_val (R_move rfl) rfl rfl rfl ?_
      refine EL_val (R_move rfl) rfl rfl rfl ?_
      first | refine EL_val (R_geq_t rfl rfl (by omega)) rfl rfl rfl ?_ | refine EL_val (R_geq_f rfl rfl (by omega)) rfl rfl rfl ?_
      refine EL_val (R_move rfl) rfl rfl rfl ?_
      first | refine EL_val (R_move rfl) rfl rfl rfl ?_ | refine EL_not rfl rfl rfl ?_
      first | refine EL_val (R_move rfl) rfl rfl rfl ?_ | refine EL_not rfl rfl rfl ?_
      first | refine EL_val (R_leq_t rfl rfl (by omega)) rfl rfl rfl ?_ | refine EL_val (R_leq_f rfl rfl (by omega)) rfl rfl rfl ?_ | refine EL_not rfl rfl rfl ?_
      first | refine EL_val (R_pick_t rfl rfl) rfl rfl rfl ?_ | refine EL_val (R_pick_f rfl rfl) rfl rfl rfl ?_
      refine EL_val (R_assign rfl) rfl rfl rfl ?_
      refine EL_nil ?_
      refine E_ret ?_
      refine ret1 (.inr rfl) rfl rfl ?_
      exact ⟨by simp [h2], rfl⟩
  · refine Ret.enter Try.func32 rfl Try.ntmps32 rfl ?_
    simp only [argEnv, Nat.reduceAdd]
    refine E_seqR ?_
    refine EL_val (R_assign rfl) rfl rfl rfl ?_
    refine EL_nil ?_
    refine E_seqR ?_
    refine EL_val (R_move rfl) rfl rfl rfl ?_
    refine EL_val (R_move rfl) rfl rfl rfl ?_
    first | refine EL_val (R_geq_t rfl rfl (by omega)) rfl rfl rfl ?_ | refine EL_val (R_geq_f rfl rfl (by omega)) rfl rfl rfl ?_
    refine EL_val (R_move rfl) rfl rfl rfl ?_
    first | refine EL_val (R_move rfl) rfl rfl rfl ?_ | refine EL_not rfl rfl rfl ?_
    first | refine EL_val (R_move rfl) rfl rfl rfl ?_ | refine EL_not rfl rfl rfl ?_
    first | refine EL_val (R_leq_t rfl rfl (by omega)) rfl rfl rfl ?_ | refine EL_val (R_leq_f rfl rfl (by omega)) rfl rfl rfl ?_ | refine EL_not rfl rfl rfl ?_
    first | refine EL_val (R_pick_t rfl rfl) rfl rfl rfl ?_ | refine EL_val (R_pick_f rfl rfl) rfl rfl rfl ?_
    refine EL_val (R_assign rfl) rfl rfl rfl ?_
    refine EL_nil ?_
    refine E_ret ?_
    refine ret1 (.inr rfl) rfl rfl ?_
    exact ⟨by simp [h1], rfl⟩
def headR (a s : Int) : List UInt8 := sealR (([72, 69, 65, 68] ++ leB a.toNat 4) ++ leB s.toNat 4)
theorem headR_eq {a s : Int} (h : headOk a s = true) : headR a s = headB a s := by
  have hf : (0 ≤ a ∧ a ≤ 39) ∧ 1 ≤ s ∧ s ≤ 1073741824 := by simpa [headOk] using h
  have ha : numB a 1 = [UInt8.ofNat a.toNat] := by
    unfold numB
    rw [show (a % 4294967296).toNat = a.toNat by omega]
    simp [leB]
  have ha4 : leB a.toNat 4 = [UInt8.ofNat a.toNat, 0, 0, 0] := by
    have : ∀ n, n < 40 → leB n 4 = [UInt8.ofNat n, 0, 0, 0] := by decide
    exact this _ (by omega)
  have hs : numB s 4 = leB s.toNat 4 := by
    unfold numB
    rw [show (s % 4294967296).toNat = s.toNat by omega]
  unfold headR headB
  refine sealR_eq ?_ (by simp [leB_length])
  have e : (([72, 69, 65, 68] ++ leB a.toNat 4) ++ leB s.toNat 4).length = 12 := by simp [leB_length]
  rw [e]
  show putAt (putAt ([72, 69, 65, 68] ++ zerosB 60) 4 (numB a 1)) 8 (numB s 4) = _
  rw [ha, hs, ha4]
  have h4 : ∃ y0 y1 y2 y3, leB s.toNat 4 = [y0, y1, y2, y3] := ⟨_, _, _, _, rfl⟩
  obtain ⟨y0, y1, y2, y3, h4⟩ := h4
  rw [h4]
  rfl
set_option maxHeartbeats 1000000 in
theorem refputhead_ok {w : World} {a s : Int} :
    Ret Try.prog 18 [.agg #[.int .i64 a, .int .i64 s]] w fun v w' => (if headOk a s then ∃ u, v = .tuple #[u, .int .i64 0] ∧ OB w.heap.size w' u (headB a s) else v = .tuple #[.slice none 0 0, .int .i64 2]) ∧ Mods No w w' := by
  by_cases h1 : 0 ≤ a ∧ a ≤ 39
  · by_cases h2 : 1 ≤ s ∧ s ≤ 1073741824
    · have hok : headOk a s = true := by simp [headOk, h1, h2]
      obtain ⟨B, hB⟩ : ∃ B, B = w.heap.size := ⟨_, rfl⟩
      rw [hok, ← headR_eq hok]
      refine Ret.enter Try.func18 rfl Try.ntmps18 rfl ?_
      simp only [argEnv, Nat.reduceAdd]
      refine E_seqR ?_
      refine EL_step rfl ?_
      refine EO_box rfl rfl ?_
      intro w1 hn1
      refine EL_val (R_assign rfl) rfl rfl rfl ?_
      refine EL_val (R_assign rfl) rfl rfl rfl ?_
      refine EL_nil ?_
      refine E_seq ?_
      refine E_seqR ?_
      refine EL_val (R_fieldAddr rfl K.fT46_0) rfl rfl rfl ?_
      refine EL_val (R_load rfl K.ag3 (hn1.bk.cell rfl)) rfl rfl rfl ?_
      refine EL_step rfl ?_
      refine EO_call K.bd32 rfl rfl (ret_t refin_ok (decide_eq_true h1)) ?_
      rintro _ _ ⟨rfl, rfl⟩
      refine EL_val (R_not rfl) rfl rfl rfl ?_
      refine EL_val (R_move rfl) rfl rfl rfl ?_
      first | refine EL_val (R_fieldAddr rfl K.fT46_1) rfl rfl rfl ?_ | refine EL_not rfl rfl rfl ?_
      first | refine EL_val (R_load rfl K.ag3 (hn1.bk.cell rfl)) rfl rfl rfl ?_ | refine EL_not rfl rfl rfl ?_
      refine EL_step rfl ?_
      refine EO_call K.bd32 rfl rfl (ret_t refin_ok (decide_eq_true h2)) ?_
      rintro _ _ ⟨rfl, rfl⟩
      first | refine EL_val (R_not rfl) rfl rfl rfl ?_ | refine EL_not rfl rfl rfl ?_
      first | refine EL_val (R_pick_t rfl rfl) rfl rfl rfl ?_ | refine EL_val (R_pick_f rfl rfl) rfl rfl rfl ?_
      refine EL_nil ?_
      refine E_cond_f rfl ?_
      refine E_skip ?_
      refine thenQ_n ?_
      refine E_seqR ?_
      refine EL_step rfl ?_
      refine EO_buildSlice0 Try.underlying23 K.sz5 rfl ?_
      intro w2 hn2
      refine EL_step rfl ?_
      refine EO_appendStr (l := [72, 69, 65, 68]) (hn2.own0 (m := 0) (base := B) rfl (by have := hn1.size; omega) (by simp only [maxLen]; omega)) (by simp) (by have := hn1.size; have := hn2.size; omega) rfl rfl Try.underlying23 Try.underlying9 K.sz5 K.zr5 K.by5 rfl ?_
      intro v3 w3 ho3 hm3
      (have hs1 := hn1.size; have hs2 := hn2.size; have hs3 := hm3.size; have hk3 : Mods No w1 w3 := hn2.mods.trans' hm3 (fun q hq e => (by simp [Value.ownBlock] at e; omega)); have hX3 := hk3.bk' hn1.bk; have hob3 : OB B w3 v3 [72, 69, 65, 68] := ho3)
      refine EL_val (R_assign rfl) rfl rfl rfl ?_
      refine EL_nil ?_
      refine E_seqR ?_
      refine EL_val (R_move rfl) rfl rfl rfl ?_
      refine EL_val (R_fieldAddr rfl K.fT46_0) rfl rfl rfl ?_
      refine EL_val (R_load rfl K.ag3 (hX3.cell rfl)) rfl rfl rfl ?_
      refine EL_step rfl ?_
      refine EO_call K.bd33 rfl rfl (refput_ok (size := 4) hob3 (by omega) h1.1 (by omega) (by omega) (by simp)) ?_
      rintro v4 w4 ⟨ho4, hm4⟩
      (have hs4 := hm4.size; have hX4 := hm4.bk hX3 (by decide))
      refine EL_val (R_assign rfl) rfl rfl rfl ?_
      refine EL_nil ?_
      refine E_seqR ?_
      refine EL_val (R_move rfl) rfl rfl rfl ?_
      refine EL_val (R_fieldAddr rfl K.fT46_1) rfl rfl rfl ?_
      refine EL_val (R_load rfl K.ag3 (hX4.cell rfl)) rfl rfl rfl ?_
      refine EL_step rfl ?_
      refine EO_call K.bd33 rfl rfl (refput_ok (size := 4) ho4 (by omega) (by omega) (by omega) (by omega) (by simp [leB_length])) ?_
      rintro v5 w5 ⟨ho5, hm5⟩
      (obtain ⟨A5, c5, rfl, _, _⟩ := own_sl ho5; have hs5 := hm5.size)
      refine EL_step rfl ?_
      refine EO_call K.bd34 rfl rfl (refseal_ok (OB.src ho5) (by simp [leB_length])) ?_
      rintro v6 w6 ⟨ho6, hm6⟩
      refine EL_val (R_assign rfl) rfl rfl rfl ?_
      refine EL_val (R_assign rfl) rfl rfl rfl ?_
      refine EL_nil ?_
      refine E_ret ?_
      refine ret2 (.inr rfl) rfl rfl rfl ?_
      simp only [if_true]
      exact ⟨⟨v6, rfl, own_mono ho6 (by omega)⟩, TM.no_of (T := U8) (B := B) (hn1.mods.trans hk3) ((hm4.trans hm5).trans (TM.of_no hm6)) (by omega)⟩
    · have hok : headOk a s = false := by simp [headOk, h1, h2]
      refine Ret.enter Try.func18 rfl Try.ntmps18 rfl ?_
      simp only [argEnv, Nat.reduceAdd]
      refine E_seqR ?_
      refine EL_step rfl ?_
      refine EO_box rfl rfl ?_
      intro w1 hn1
      refine EL_val (R_assign rfl) rfl rfl rfl ?_
      refine EL_val (R_assign rfl) rfl rfl rfl ?_
      refine EL_nil ?_
      refine E_seq ?_
      refine E_seqR ?_
      refine EL_val (R_fieldAddr rfl K.fT46_0) rfl rfl rfl ?_
      refine EL_val (R_load rfl K.ag3 (hn1.bk.cell rfl)) rfl rfl rfl ?_
      refine EL_step rfl ?_
      refine EO_call K.bd32 rfl rfl (ret_t refin_ok (decide_eq_true h1)) ?_
      rintro _ _ ⟨rfl, rfl⟩
      refine EL_val (R_not rfl) rfl rfl rfl ?_
      refine EL_val (R_move rfl) rfl rfl rfl ?_
      first | refine EL_val (R_fieldAddr rfl K.fT46_1) rfl rfl rfl ?_ | refine EL_not rfl rfl rfl ?_
      first | refine EL_val (R_load rfl K.ag3 (hn1.bk.cell rfl)) rfl rfl rfl ?_ | refine EL_not rfl rfl rfl ?_
      refine EL_step rfl ?_
      refine EO_call K.bd32 rfl rfl (ret_f refin_ok (decide_eq_false h2)) ?_
      rintro _ _ ⟨rfl, rfl⟩
      first | refine EL_val (R_not rfl) rfl rfl rfl ?_ | refine EL_not rfl rfl rfl ?_
      first | refine EL_val (R_pick_t rfl rfl) rfl rfl rfl ?_ | refine EL_val (R_pick_f rfl rfl) rfl rfl rfl ?_
      refine EL_nil ?_
      refine E_cond_t rfl ?_
      refine E_seqR ?_
      refine EL_val (R_assign rfl) rfl rfl rfl ?_
      refine EL_val (R_assign rfl) rfl rfl rfl ?_
      refine EL_nil ?_
      refine E_ret ?_
      refine thenQ_r ?_
      refine ret2 (.inr rfl) rfl rfl rfl ?_
      rw [hok]
      exact ⟨rfl, hn1.mods⟩
  · have hok : headOk a s = false := by simp [headOk, h1]
    refine Ret.enter Try.func18 rfl Try.ntmps18 rfl ?_
    simp only [argEnv, Nat.reduceAdd]
    refine E_seqR ?_
    refine EL_step rfl ?_
    refine EO_box rfl rfl ?_
    intro w1 hn1
    refine EL_val (R_assign rfl) rfl rfl rfl ?_
    refine EL_val (R_assign rfl) rfl rfl rfl ?_
    refine EL_nil ?_
    refine E_seq ?_
    refine E_seqR ?_
    refine EL_val (R_fieldAddr rfl K.fT46_0) rfl rfl rfl ?_
    refine EL_val (R_load rfl K.ag3 (hn1.bk.cell rfl)) rfl rfl rfl ?_
    refine EL_step rfl ?_
    refine EO_call K.bd32 rfl rfl (ret_f refin_ok (decide_eq_false h1)) ?_
    rintro _ _ ⟨rfl, rfl⟩
    refine EL_val (R_not rfl) rfl rfl rfl ?_
    refine EL_val (R_move rfl) rfl rfl rfl ?_
    refine EL_not rfl rfl rfl ?_
    refine EL_not rfl rfl rfl ?_
    refine EL_not rfl rfl rfl ?_
    refine EL_not rfl rfl rfl ?_
    first | refine EL_val (R_pick_t rfl rfl) rfl rfl rfl ?_ | refine EL_val (R_pick_f rfl rfl) rfl rfl rfl ?_
    refine EL_nil ?_
    refine E_cond_t rfl ?_
    refine E_seqR ?_
    refine EL_val (R_assign rfl) rfl rfl rfl ?_
    refine EL_val (R_assign rfl) rfl rfl rfl ?_
    refine EL_nil ?_
    refine E_ret ?_
    refine thenQ_r ?_
    refine ret2 (.inr rfl) rfl rfl rfl ?_
    rw [hok]
    exact ⟨rfl, hn1.mods⟩
/-- the head that a block is -/
def hAt (l : List UInt8) : Int := ((l.getD 4 0).toNat : Int)
def hSeq (l : List UInt8) : Int := (leN (sub l 8 4) : Int)
def getHeadS (l : List UInt8) : Option (Int × Int) := if headOk (hAt l) (hSeq l) && decide (headB (hAt l) (hSeq l) = l) then some (hAt l, hSeq l) else none
theorem headB_length (a s : Int) : (headB a s).length = 64 := by
  have h : (setS (setS ([72, 69, 65, 68] ++ zerosB 60) 4 1 [a]) 8 4 [s]).length = 64 := by
    unfold setS
    rw [setN_length _ (by rw [setN_length _ (by simp [zerosB])]; simp [zerosB]), setN_length _ (by simp [zerosB])]
    simp [zerosB]
  exact sealS_length h
theorem headB_sealed (a s : Int) : sealedS (headB a s) = true := by
  have h : (setS (setS ([72, 69, 65, 68] ++ zerosB 60) 4 1 [a]) 8 4 [s]).length = 64 := by
    unfold setS
    rw [setN_length _ (by rw [setN_length _ (by simp [zerosB])]; simp [zerosB]), setN_length _ (by simp [zerosB])]
    simp [zerosB]
  exact sealed_seal h
theorem getHeadS_none {l : List UInt8} (h : sealedS l = false) : getHeadS l = none := by
  unfold getHeadS
  rw [if_neg]
  intro hh
  simp only [Bool.and_eq_true, decide_eq_true_eq] at hh
  rw [← hh.2, headB_sealed] at h
  cases h
theorem getHeadS_length {l : List UInt8} {p : Int × Int} (h : getHeadS l = some p) : l.length = 64 ∧ headOk p.1 p.2 = true ∧ headB p.1 p.2 = l := by
  unfold getHeadS at h
  split at h
  · rename_i hh
    simp only [Bool.and_eq_true, decide_eq_true_eq] at hh
    injection h with h
    subst h
    exact ⟨by rw [← hh.2, headB_length], hh.1, hh.2⟩
  · cases h
/-- a head that was put is got back -/
theorem getHead_put {a s : Int} (h : headOk a s = true) : getHeadS (headB a s) = some (a, s) := by
  have hf : (0 ≤ a ∧ a ≤ 39) ∧ 1 ≤ s ∧ s ≤ 1073741824 := by simpa [headOk] using h
  have l0 : ([72, 69, 65, 68] ++ zerosB 60).length = 64 := by simp [zerosB]
  obtain ⟨m1, hm1⟩ : ∃ m1, m1 = setS ([72, 69, 65, 68] ++ zerosB 60) 4 1 [a] := ⟨_, rfl⟩
  obtain ⟨m2, hm2⟩ : ∃ m2, m2 = setS m1 8 4 [s] := ⟨_, rfl⟩
  have l1 : m1.length = 64 := by rw [hm1]; unfold setS; rw [setN_length _ (by rw [l0]; simp), l0]
  have l2 : m2.length = 64 := by rw [hm2]; unfold setS; rw [setN_length _ (by rw [l1]; simp), l1]
  have hB : headB a s = sealS m2 := by rw [hm2, hm1]; rfl
  have a1 : sub m2 4 1 = numB a 1 := by
    rw [hm2]; unfold setS
    rw [setN_sub_off _ (by rw [l1]; simp) (by simp), hm1]; unfold setS
    exact setN_sub_in (l := [72, 69, 65, 68] ++ zerosB 60) (a := 4) (size := 1) (ks := [a]) 1 (by rw [l0]; omega) 0 (by omega)
  have a2 : sub m2 8 4 = numB s 4 := by
    rw [hm2]; unfold setS
    exact setN_sub_in (l := m1) (a := 8) (size := 4) (ks := [s]) 1 (by rw [l1]; omega) 0 (by omega)
  have d1 : hAt (headB a s) = a := by
    unfold hAt
    rw [getD_sub (by rw [hB, sealS_length l2]; omega), hB, sub_seal l2 (by omega), a1]
    exact leN_numB (by omega) (by show a < (2 : Int) ^ 8; omega) (by omega)
  have d2 : hSeq (headB a s) = s := by
    unfold hSeq
    rw [hB, sub_seal l2 (by omega), a2]
    exact leN_numB (by omega) (by show s < 2 ^ 32; omega) (by omega)
  unfold getHeadS
  rw [d1, d2, h]
  simp
theorem getHead_zeros : getHeadS (zerosB 64) = none := by
  have h : headOk (hAt (zerosB 64)) (hSeq (zerosB 64)) = false := by decide
  unfold getHeadS
  rw [h]
  simp
def getHeadP (l : List UInt8) (v : Value) : Prop := match getHeadS l with
  | none => v = .tuple #[.agg #[.int .i64 0, .int .i64 0], .int .i64 2]
  | some (a, s) => v = .tuple #[.agg #[.int .i64 a, .int .i64 s], .int .i64 0]
theorem hAt_sub {l : List UInt8} (h : l.length = 64) : (leN (sub l 4 1) : Int) = hAt l := by
  unfold hAt
  rw [getD_sub (by omega)]
theorem getHeadS_eq (l : List UInt8) : getHeadS l = if headOk (hAt l) (hSeq l) && decide (headB (hAt l) (hSeq l) = l) then some (hAt l, hSeq l) else none := rfl
set_option maxHeartbeats 1000000 in
theorem gethead_ok {w : World} {A : Option Addr} {l : List UInt8} {c : Nat} (hl : BS w A l) (hc : l.length ≤ c) (hm : l.length ≤ 1048576) :
    Ret Try.prog 42 [.slice A l.length c] w fun v w' => getHeadP l v ∧ Mods No w w' := by
  unfold getHeadP
  cases hs : sealedS l
  · rw [getHeadS_none hs]
    refine Ret.enter Try.func42 rfl Try.ntmps42 rfl ?_
    simp only [argEnv, Nat.reduceAdd]
    refine E_seqR ?_
    refine EL_step rfl ?_
    refine EO_alloc K.zr46 rfl ?_
    intro w1 hn1
    refine EL_val (R_assign rfl) rfl rfl rfl ?_
    refine EL_nil ?_
    refine E_seq ?_
    refine E_seqR ?_
    refine EL_val (R_move rfl) rfl rfl rfl ?_
    refine EL_step rfl ?_
    refine EO_call K.bd51 rfl rfl ((by have := sealed_ok (hl.no hn1.mods) hc (by omega); rw [hs] at this; exact this)) ?_
    rintro _ w2 ⟨rfl, hm2⟩
    refine EL_val (R_not rfl) rfl rfl rfl ?_
    refine EL_nil ?_
    refine E_cond_t rfl ?_
    refine E_seqR ?_
    refine EL_val (R_build (cells := #[.int .i64 0, .int .i64 0]) K.zr46 K.pl46 rfl rfl) rfl rfl rfl ?_
    refine EL_step rfl ?_
    refine EO_storeAggB (hm2.bk' hn1.bk) rfl rfl K.sz46 rfl rfl ?_
    intro w3 hu3
    refine EL_val (R_assign rfl) rfl rfl rfl ?_
    refine EL_nil ?_
    refine E_ret ?_
    refine thenQ_r ?_
    refine ret_ct (.inr rfl) rfl rfl rfl K.ag46 (by exact K.sz46) (whole_cells hu3.bk) ?_
    exact ⟨rfl, (hn1.mods.trans hm2).trans' hu3.mods fun k hk hk' => by omega⟩
  · have h64 : l.length = 64 := by
      unfold sealedS at hs
      simp only [Bool.and_eq_true, decide_eq_true_eq] at hs
      exact hs.1
    obtain ⟨a, ha⟩ : ∃ a, a = hAt l := ⟨_, rfl⟩
    obtain ⟨s, hsq⟩ : ∃ s, s = hSeq l := ⟨_, rfl⟩
    have e := getHeadS_eq l
    have ha' : (leN ((l.drop 4).take 1) : Int) = a := (hAt_sub h64).trans ha.symm
    have hs' : (leN ((l.drop 8).take 4) : Int) = s := hsq.symm
    rw [← ha, ← hsq] at e
    have hn4 : ∀ {w1}, BS w1 A l → Ret Try.prog 52 [.slice A l.length c, .int .i64 4, .int .i64 1] w1 fun v w' => v = .int .i64 a ∧ w1 = w' := fun {w1} h => by
      have := num_ok (a := 4) (size := 1) h hc (by omega) (by omega) (by omega) (by omega)
      rw [ha'] at this
      exact this
    have hn8 : ∀ {w1}, BS w1 A l → Ret Try.prog 52 [.slice A l.length c, .int .i64 8, .int .i64 4] w1 fun v w' => v = .int .i64 s ∧ w1 = w' := fun {w1} h => by
      have := num_ok (a := 8) (size := 4) h hc (by omega) (by omega) (by omega) (by omega)
      rw [hs'] at this
      exact this
    cases hok : headOk a s
    · rw [hok] at e
      simp only [Bool.false_and, if_neg (show ¬ false = true by decide)] at e
      rw [e]
      refine Ret.enter Try.func42 rfl Try.ntmps42 rfl ?_
      simp only [argEnv, Nat.reduceAdd]
      refine E_seqR ?_
      refine EL_step rfl ?_
      refine EO_alloc K.zr46 rfl ?_
      intro w1 hn1
      refine EL_val (R_assign rfl) rfl rfl rfl ?_
      refine EL_nil ?_
      refine E_seq ?_
      refine E_seqR ?_
      refine EL_val (R_move rfl) rfl rfl rfl ?_
      refine EL_step rfl ?_
      refine EO_call K.bd51 rfl rfl ((by have := sealed_ok (hl.no hn1.mods) hc (by omega); rw [hs] at this; exact this)) ?_
      rintro _ w2 ⟨rfl, hm2⟩
      (have hl2 := (hl.no hn1.mods).no hm2)
      refine EL_val (R_not rfl) rfl rfl rfl ?_
      refine EL_nil ?_
      refine E_cond_f rfl ?_
      refine E_skip ?_
      refine thenQ_n ?_
      refine E_seqR ?_
      refine EL_val (R_move rfl) rfl rfl rfl ?_
      refine EL_step rfl ?_
      refine EO_call K.bd52 rfl rfl (hn4 hl2) ?_
      rintro _ _ ⟨rfl, rfl⟩
      refine EL_val (R_move rfl) rfl rfl rfl ?_
      refine EL_step rfl ?_
      refine EO_call K.bd52 rfl rfl (hn8 hl2) ?_
      rintro _ _ ⟨rfl, rfl⟩
      refine EL_val (R_build (cells := #[.int .i64 a, .int .i64 s]) K.zr46 K.pl46 rfl rfl) rfl rfl rfl ?_
      refine EL_step rfl ?_
      refine EO_alloc K.zr46 rfl ?_
      intro w3 hn3
      refine EL_step rfl ?_
      refine EO_storeAggB hn3.bk rfl rfl K.sz46 rfl rfl ?_
      intro w4 hu4
      refine EL_nil ?_
      refine E_seq ?_
      refine E_seqR ?_
      refine EL_val (R_loadAgg rfl K.ag46 (whole_cells hu4.bk) (K.sz46)) rfl rfl rfl ?_
      refine EL_step rfl ?_
      refine EO_call K.bd39 rfl rfl ((by have := puthead_ok (w := w4) (a := a) (s := s); rw [hok] at this; exact this)) ?_
      rintro _ w5 ⟨rfl, hm5⟩
      (have hX := hm5.bk' (hu4.mods.bk (hn3.mods.bk' (hm2.bk' hn1.bk)) (by have := hn1.size; have := hm2.size; omega)); have hm05 := ((((hn1.mods.trans hm2).trans hn3.mods).trans' hu4.mods (fun k hk e => by have := hn1.size; have := hm2.size; omega)).trans hm5))
      refine EL_val (R_move rfl) rfl rfl rfl ?_
      refine EL_val (R_extract rfl rfl) rfl rfl rfl ?_
      refine EL_val (R_extract rfl rfl) rfl rfl rfl ?_
      refine EL_val (R_assign rfl) rfl rfl rfl ?_
      refine EL_val (R_assign rfl) rfl rfl rfl ?_
      refine EL_nil ?_
      refine E_seqR ?_
      refine EL_val (R_move rfl) rfl rfl rfl ?_
      first | refine EL_val (R_neq_t rfl rfl (by omega)) rfl rfl rfl ?_ | refine EL_val (R_neq_f rfl rfl (by omega)) rfl rfl rfl ?_
      refine EL_val (R_move rfl) rfl rfl rfl ?_
      refine EL_not rfl rfl rfl ?_
      refine EL_not rfl rfl rfl ?_
      refine EL_not rfl rfl rfl ?_
      refine EL_not rfl rfl rfl ?_
      first | refine EL_val (R_pick_t rfl rfl) rfl rfl rfl ?_ | refine EL_val (R_pick_f rfl rfl) rfl rfl rfl ?_
      refine EL_nil ?_
      refine E_cond_t rfl ?_
      refine E_seqR ?_
      refine EL_val (R_build (cells := #[.int .i64 0, .int .i64 0]) K.zr46 K.pl46 rfl rfl) rfl rfl rfl ?_
      refine EL_step rfl ?_
      refine EO_storeAggB hX rfl rfl K.sz46 rfl rfl ?_
      intro w6 hu6
      refine EL_val (R_assign rfl) rfl rfl rfl ?_
      refine EL_nil ?_
      refine E_ret ?_
      refine thenQ_r ?_
      refine ret_ct (.inr rfl) rfl rfl rfl K.ag46 (by exact K.sz46) (whole_cells hu6.bk) ?_
      exact ⟨rfl, hm05.trans' hu6.mods fun k hk hk' => by omega⟩
    · have hbl := headB_length a s
      by_cases hb : headB a s = l
      · rw [hok, decide_eq_true hb] at e
        simp only [Bool.and_self, if_pos] at e
        rw [e]
        refine Ret.enter Try.func42 rfl Try.ntmps42 rfl ?_
        simp only [argEnv, Nat.reduceAdd]
        refine E_seqR ?_
        refine EL_step rfl ?_
        refine EO_alloc K.zr46 rfl ?_
        intro w1 hn1
        refine EL_val (R_assign rfl) rfl rfl rfl ?_
        refine EL_nil ?_
        refine E_seq ?_
        refine E_seqR ?_
        refine EL_val (R_move rfl) rfl rfl rfl ?_
        refine EL_step rfl ?_
        refine EO_call K.bd51 rfl rfl ((by have := sealed_ok (hl.no hn1.mods) hc (by omega); rw [hs] at this; exact this)) ?_
        rintro _ w2 ⟨rfl, hm2⟩
        (have hl2 := (hl.no hn1.mods).no hm2)
        refine EL_val (R_not rfl) rfl rfl rfl ?_
        refine EL_nil ?_
        refine E_cond_f rfl ?_
        refine E_skip ?_
        refine thenQ_n ?_
        refine E_seqR ?_
        refine EL_val (R_move rfl) rfl rfl rfl ?_
        refine EL_step rfl ?_
        refine EO_call K.bd52 rfl rfl (hn4 hl2) ?_
        rintro _ _ ⟨rfl, rfl⟩
        refine EL_val (R_move rfl) rfl rfl rfl ?_
        refine EL_step rfl ?_
        refine EO_call K.bd52 rfl rfl (hn8 hl2) ?_
        rintro _ _ ⟨rfl, rfl⟩
        refine EL_val (R_build (cells := #[.int .i64 a, .int .i64 s]) K.zr46 K.pl46 rfl rfl) rfl rfl rfl ?_
        refine EL_step rfl ?_
        refine EO_alloc K.zr46 rfl ?_
        intro w3 hn3
        refine EL_step rfl ?_
        refine EO_storeWhole hn3.bk rfl rfl K.sz46 rfl rfl ?_
        intro w4 hu4
        refine EL_nil ?_
        refine E_seq ?_
        refine E_seqR ?_
        refine EL_val (R_loadAgg rfl K.ag46 (whole_cells hu4.bk) (K.sz46)) rfl rfl rfl ?_
        refine EL_step rfl ?_
        refine EO_call K.bd39 rfl rfl ((by have := puthead_ok (w := w4) (a := a) (s := s); rw [hok] at this; exact this)) ?_
        rintro _ w5 ⟨⟨u, rfl, ho⟩, hm5⟩
        (obtain ⟨gu, cu', rfl, _, _, _, _, hbu⟩ := ho.form (by omega); have hX := hm5.bk' (hu4.mods.bk (hn3.mods.bk' (hm2.bk' hn1.bk)) (by have := hn1.size; have := hm2.size; omega)); have hm25 := (hn3.mods.trans' hu4.mods (fun k hk e => by omega)).trans hm5; have hm05 := (hn1.mods.trans hm2).trans hm25)
        refine EL_val (R_move rfl) rfl rfl rfl ?_
        refine EL_val (R_extract rfl rfl) rfl rfl rfl ?_
        refine EL_val (R_extract rfl rfl) rfl rfl rfl ?_
        refine EL_val (R_assign rfl) rfl rfl rfl ?_
        refine EL_val (R_assign rfl) rfl rfl rfl ?_
        refine EL_nil ?_
        refine E_seqR ?_
        refine EL_val (R_move rfl) rfl rfl rfl ?_
        first | refine EL_val (R_neq_t rfl rfl (by omega)) rfl rfl rfl ?_ | refine EL_val (R_neq_f rfl rfl (by omega)) rfl rfl rfl ?_
        refine EL_val (R_move rfl) rfl rfl rfl ?_
        first | refine EL_val (R_move rfl) rfl rfl rfl ?_ | refine EL_not rfl rfl rfl ?_
        first | refine EL_val (R_move rfl) rfl rfl rfl ?_ | refine EL_not rfl rfl rfl ?_
        refine EL_step rfl ?_
        refine EO_call K.bd53 rfl rfl (ret_t (bequal_ok hbu (hl2.no hm25)) (decide_eq_true hb)) ?_
        rintro _ _ ⟨rfl, rfl⟩
        first | refine EL_val (R_not rfl) rfl rfl rfl ?_ | refine EL_not rfl rfl rfl ?_
        first | refine EL_val (R_pick_t rfl rfl) rfl rfl rfl ?_ | refine EL_val (R_pick_f rfl rfl) rfl rfl rfl ?_
        refine EL_nil ?_
        refine E_cond_f rfl ?_
        refine E_skip ?_
        refine thenQ_n ?_
        refine E_seqR ?_
        refine EL_val (R_loadAgg rfl K.ag46 (whole_cells (hm5.bk' hu4.bk)) (K.sz46)) rfl rfl rfl ?_
        refine EL_step rfl ?_
        refine EO_storeWhole hX rfl rfl K.sz46 rfl rfl ?_
        intro w6 hu6
        refine EL_val (R_assign rfl) rfl rfl rfl ?_
        refine EL_nil ?_
        refine E_ret ?_
        refine ret_ct (.inr rfl) rfl rfl rfl K.ag46 (by exact K.sz46) (whole_cells hu6.bk) ?_
        exact ⟨rfl, hm05.trans' hu6.mods fun k hk hk' => by omega⟩
      · rw [hok, decide_eq_false hb] at e
        simp only [Bool.and_false, if_neg (show ¬ false = true by decide)] at e
        rw [e]
        refine Ret.enter Try.func42 rfl Try.ntmps42 rfl ?_
        simp only [argEnv, Nat.reduceAdd]
        refine E_seqR ?_
        refine EL_step rfl ?_
        refine EO_alloc K.zr46 rfl ?_
        intro w1 hn1
        refine EL_val (R_assign rfl) rfl rfl rfl ?_
        refine EL_nil ?_
        refine E_seq ?_
        refine E_seqR ?_
        refine EL_val (R_move rfl) rfl rfl rfl ?_
        refine EL_step rfl ?_
        refine EO_call K.bd51 rfl rfl ((by have := sealed_ok (hl.no hn1.mods) hc (by omega); rw [hs] at this; exact this)) ?_
        rintro _ w2 ⟨rfl, hm2⟩
        (have hl2 := (hl.no hn1.mods).no hm2)
        refine EL_val (R_not rfl) rfl rfl rfl ?_
        refine EL_nil ?_
        refine E_cond_f rfl ?_
        refine E_skip ?_
        refine thenQ_n ?_
        refine E_seqR ?_
        refine EL_val (R_move rfl) rfl rfl rfl ?_
        refine EL_step rfl ?_
        refine EO_call K.bd52 rfl rfl (hn4 hl2) ?_
        rintro _ _ ⟨rfl, rfl⟩
        refine EL_val (R_move rfl) rfl rfl rfl ?_
        refine EL_step rfl ?_
        refine EO_call K.bd52 rfl rfl (hn8 hl2) ?_
        rintro _ _ ⟨rfl, rfl⟩
        refine EL_val (R_build (cells := #[.int .i64 a, .int .i64 s]) K.zr46 K.pl46 rfl rfl) rfl rfl rfl ?_
        refine EL_step rfl ?_
        refine EO_alloc K.zr46 rfl ?_
        intro w3 hn3
        refine EL_step rfl ?_
        refine EO_storeWhole hn3.bk rfl rfl K.sz46 rfl rfl ?_
        intro w4 hu4
        refine EL_nil ?_
        refine E_seq ?_
        refine E_seqR ?_
        refine EL_val (R_loadAgg rfl K.ag46 (whole_cells hu4.bk) (K.sz46)) rfl rfl rfl ?_
        refine EL_step rfl ?_
        refine EO_call K.bd39 rfl rfl ((by have := puthead_ok (w := w4) (a := a) (s := s); rw [hok] at this; exact this)) ?_
        rintro _ w5 ⟨⟨u, rfl, ho⟩, hm5⟩
        (obtain ⟨gu, cu', rfl, _, _, _, _, hbu⟩ := ho.form (by omega); have hX := hm5.bk' (hu4.mods.bk (hn3.mods.bk' (hm2.bk' hn1.bk)) (by have := hn1.size; have := hm2.size; omega)); have hm25 := (hn3.mods.trans' hu4.mods (fun k hk e => by omega)).trans hm5; have hm05 := (hn1.mods.trans hm2).trans hm25)
        refine EL_val (R_move rfl) rfl rfl rfl ?_
        refine EL_val (R_extract rfl rfl) rfl rfl rfl ?_
        refine EL_val (R_extract rfl rfl) rfl rfl rfl ?_
        refine EL_val (R_assign rfl) rfl rfl rfl ?_
        refine EL_val (R_assign rfl) rfl rfl rfl ?_
        refine EL_nil ?_
        refine E_seqR ?_
        refine EL_val (R_move rfl) rfl rfl rfl ?_
        first | refine EL_val (R_neq_t rfl rfl (by omega)) rfl rfl rfl ?_ | refine EL_val (R_neq_f rfl rfl (by omega)) rfl rfl rfl ?_
        refine EL_val (R_move rfl) rfl rfl rfl ?_
        first | refine EL_val (R_move rfl) rfl rfl rfl ?_ | refine EL_not rfl rfl rfl ?_
        first | refine EL_val (R_move rfl) rfl rfl rfl ?_ | refine EL_not rfl rfl rfl ?_
        refine EL_step rfl ?_
        refine EO_call K.bd53 rfl rfl (ret_f (bequal_ok hbu (hl2.no hm25)) (decide_eq_false hb)) ?_
        rintro _ _ ⟨rfl, rfl⟩
        first | refine EL_val (R_not rfl) rfl rfl rfl ?_ | refine EL_not rfl rfl rfl ?_
        first | refine EL_val (R_pick_t rfl rfl) rfl rfl rfl ?_ | refine EL_val (R_pick_f rfl rfl) rfl rfl rfl ?_
        refine EL_nil ?_
        refine E_cond_t rfl ?_
        refine E_seqR ?_
        refine EL_val (R_build (cells := #[.int .i64 0, .int .i64 0]) K.zr46 K.pl46 rfl rfl) rfl rfl rfl ?_
        refine EL_step rfl ?_
        refine EO_storeAggB hX rfl rfl K.sz46 rfl rfl ?_
        intro w6 hu6
        refine EL_val (R_assign rfl) rfl rfl rfl ?_
        refine EL_nil ?_
        refine E_ret ?_
        refine thenQ_r ?_
        refine ret_ct (.inr rfl) rfl rfl rfl K.ag46 (by exact K.sz46) (whole_cells hu6.bk) ?_
        exact ⟨rfl, hm05.trans' hu6.mods fun k hk hk' => by omega⟩
end Go.Proofs.Ytobhogdndfbniaa
