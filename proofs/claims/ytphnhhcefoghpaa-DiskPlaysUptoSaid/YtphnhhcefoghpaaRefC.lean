/- The document's disk: Put. -/
import Derived.Test.YtphnhhcefoghpaaRefB
set_option linter.unusedVariables false
set_option linter.unusedSimpArgs false
set_option maxRecDepth 100000
namespace Go.Proofs.Ytphnhhcefoghpaa
open Go.EW Go.RowKit
section
variable {w w1 w' : World} {B d gl go : Nat} {CL CO : Array Value} {cl co : Nat} {lf : Int} {ov : Nat → Value} {S : DS}
set_option maxHeartbeats 1000000 in
theorem rput_ok (h : RefAt w B d gl go CL CO cl co lf ov S) (hB : B ≤ w.heap.size) {A : Option Addr} {L : List (Int × List UInt8)} (hw : WritesAt B w A L) (c : Nat)
    (hroom : ∀ i, i < S.n → (S.opn i).length + L.length ≤ 2199023255552) :
    Ret Try.prog 16 [ptr d, .slice A L.length c] w fun v w' => v = .int .i64 (putS S L).2 ∧ Ref w' B d (putS S L).1 ∧ RM B w w' := by
  have hnle := h.nle
  have hl := hw.1
  cases ho : S.off
  case true =>
    have hcO := h.cOff
    rw [ho] at hcO
    have hP : putS S L = (S, 8) := by simp [putS, ho]
    rw [hP]
    refine Ret.enter Try.func16 rfl Try.ntmps16 rfl ?_
    simp only [argEnv, Nat.reduceAdd]
    refine E_seqR ?_
    refine EL_val (R_assign rfl) rfl rfl rfl ?_
    refine EL_nil ?_
    refine E_seq ?_
    refine E_seqR ?_
    refine EL_val (R_move rfl) rfl rfl rfl ?_
    refine EL_val (R_nilCheck rfl) rfl rfl rfl ?_
    refine EL_val (R_fieldAddr rfl K.fT52_3) rfl rfl rfl ?_
    refine EL_val (R_load rfl K.ag4 (hcO)) rfl rfl rfl ?_
    refine EL_nil ?_
    refine E_cond_t rfl ?_
    refine E_seqR ?_
    refine EL_val (R_assign rfl) rfl rfl rfl ?_
    refine EL_nil ?_
    refine E_ret ?_
    refine thenQ_r ?_
    refine ret1 (.inr rfl) rfl rfl ?_
    exact ⟨rfl, h.ref, RM.refl _ _⟩
  have hcO := h.cOff
  rw [ho] at hcO
  refine Ret.enter Try.func16 rfl Try.ntmps16 rfl ?_
  simp only [argEnv, Nat.reduceAdd]
  refine E_seqR ?_
  refine EL_val (R_assign rfl) rfl rfl rfl ?_
  refine EL_nil ?_
  refine E_seq ?_
  refine E_seqR ?_
  refine EL_val (R_move rfl) rfl rfl rfl ?_
  refine EL_val (R_nilCheck rfl) rfl rfl rfl ?_
  refine EL_val (R_fieldAddr rfl K.fT52_3) rfl rfl rfl ?_
  refine EL_val (R_load rfl K.ag4 (hcO)) rfl rfl rfl ?_
  refine EL_nil ?_
  refine E_cond_f rfl ?_
  refine E_skip ?_
  refine thenQ_n ?_
  refine E_seq ?_
  refine E_seqR ?_
  refine EL_val (R_assign rfl) rfl rfl rfl ?_
  refine EL_nil ?_
  refine E_block ?_
  refine E_loop (fun m' e' w' => ∃ i AA, i ≤ L.length ∧ m' = L.length - i ∧ e' = [(0, ptr d), (1, .slice (AA) L.length c), (5, .int .i64 ((i : Nat) : Int))] ∧ WritesAt B w AA L ∧ w = w' ∧ ∀ k (hk : k < L.length), k < i → L[k].2.length = 64) L.length [(0, ptr d), (1, .slice (A) L.length c), (5, .int .i64 ((0 : Nat) : Int))] ⟨rfl, rfl, rfl, trivial⟩
    ⟨0, A, by omega, by omega, rfl, hw, rfl, fun k _ hk => by omega⟩ ?_
  clear hw
  rintro m' e w' ⟨i, A, hi, rfl, rfl, hw, rfl, hall⟩
  by_cases hlt : i < L.length
  · obtain ⟨g2, i2, rfl, hg2, hcell⟩ := hw.2 (by omega)
    obtain ⟨Ad, cd, h1, h2, h3⟩ := hcell i hlt
    have hl2 := h3.1
    by_cases h64 : L[i].2.length = 64
    · refine E_seq ?_
      refine E_seqR ?_
      refine EL_val (R_move rfl) rfl rfl rfl ?_
      refine EL_val (R_move rfl) rfl rfl rfl ?_
      refine EL_val (R_lenSlice rfl Try.underlying40) rfl rfl rfl ?_
      first | refine EL_val (R_lss_t rfl rfl (by omega)) rfl rfl rfl ?_ | refine EL_val (R_lss_f rfl rfl (by omega)) rfl rfl rfl ?_
      refine EL_nil ?_
      refine E_cond_t rfl ?_
      refine E_skip ?_
      refine thenQ_n ?_
      refine E_seq ?_
      refine E_block ?_
      refine E_seqR ?_
      refine EL_val (R_move rfl) rfl rfl rfl ?_
      refine EL_val (R_move rfl) rfl rfl rfl ?_
      refine EL_val (R_indexAddr rfl rfl Try.underlying40 K.sz34 (m := i) rfl hlt) rfl rfl rfl ?_
      refine EL_val (R_fieldAddr rfl K.fT34_1) rfl rfl rfl ?_
      refine EL_val (R_load rfl K.ag23 (h2)) rfl rfl rfl ?_
      refine EL_val (R_lenSlice rfl Try.underlying23) rfl rfl rfl ?_
      first | refine EL_val (R_neq_t rfl rfl (by omega)) rfl rfl rfl ?_ | refine EL_val (R_neq_f rfl rfl (by omega)) rfl rfl rfl ?_
      refine EL_nil ?_
      refine E_cond_f rfl ?_
      refine E_skip ?_
      refine inB_n ?_
      refine thenQ_n ?_
      refine E_region ?_
      refine EL_val (R_move rfl) rfl rfl rfl ?_
      first | refine EL_val (R_inc rfl (by omega)) rfl rfl rfl ?_ | refine EL_val (R_add_in rfl rfl (by omega) (by omega)) rfl rfl rfl ?_
      refine EL_val (R_assign rfl) rfl rfl rfl ?_
      refine EL_nil ?_
      refine thenQ_n ?_
      refine ⟨rfl, L.length - (i + 1), [(0, ptr d), (1, .slice (some ⟨g2, i2, none⟩) L.length c), (5, .int .i64 ((i + 1 : Nat) : Int))], by omega, ⟨rfl, rfl, rfl, trivial⟩, i + 1, _, by omega, rfl, rfl, hw, rfl, fun k hk hki => ?_⟩
      by_cases hki' : k = i
      · subst hki'; exact h64
      · exact hall k hk (by omega)
    · have hP : putS S L = (S, 1) := by
        have : badLen L = true := List.any_eq_true.2 ⟨L[i], List.getElem_mem _, by simpa using h64⟩
        simp [putS, ho, this]
      rw [hP]
      refine E_seq ?_
      refine E_seqR ?_
      refine EL_val (R_move rfl) rfl rfl rfl ?_
      refine EL_val (R_move rfl) rfl rfl rfl ?_
      refine EL_val (R_lenSlice rfl Try.underlying40) rfl rfl rfl ?_
      first | refine EL_val (R_lss_t rfl rfl (by omega)) rfl rfl rfl ?_ | refine EL_val (R_lss_f rfl rfl (by omega)) rfl rfl rfl ?_
      refine EL_nil ?_
      refine E_cond_t rfl ?_
      refine E_skip ?_
      refine thenQ_n ?_
      refine E_seq ?_
      refine E_block ?_
      refine E_seqR ?_
      refine EL_val (R_move rfl) rfl rfl rfl ?_
      refine EL_val (R_move rfl) rfl rfl rfl ?_
      refine EL_val (R_indexAddr rfl rfl Try.underlying40 K.sz34 (m := i) rfl hlt) rfl rfl rfl ?_
      refine EL_val (R_fieldAddr rfl K.fT34_1) rfl rfl rfl ?_
      refine EL_val (R_load rfl K.ag23 (h2)) rfl rfl rfl ?_
      refine EL_val (R_lenSlice rfl Try.underlying23) rfl rfl rfl ?_
      first | refine EL_val (R_neq_t rfl rfl (by omega)) rfl rfl rfl ?_ | refine EL_val (R_neq_f rfl rfl (by omega)) rfl rfl rfl ?_
      refine EL_nil ?_
      refine E_cond_t rfl ?_
      refine E_seqR ?_
      refine EL_val (R_assign rfl) rfl rfl rfl ?_
      refine EL_nil ?_
      refine E_ret ?_
      refine inB_r (thenQ_r (thenQ_r (inB_r (thenQ_r ?_))))
      refine ret1 (.inr rfl) rfl rfl ?_
      exact ⟨rfl, h.ref, RM.refl _ _⟩
  have hgood : badLen L = false := by
    cases hb : badLen L
    · rfl
    · obtain ⟨k, hk, hq⟩ := badLen_first hb
      exact absurd (hall k hk (by omega)) hq
  clear hall
  refine E_seq ?_
  refine E_seqR ?_
  refine EL_val (R_move rfl) rfl rfl rfl ?_
  refine EL_val (R_move rfl) rfl rfl rfl ?_
  refine EL_val (R_lenSlice rfl Try.underlying40) rfl rfl rfl ?_
  first | refine EL_val (R_lss_t rfl rfl (by omega)) rfl rfl rfl ?_ | refine EL_val (R_lss_f rfl rfl (by omega)) rfl rfl rfl ?_
  refine EL_nil ?_
  refine E_cond_f rfl ?_
  refine E_exit ?_
  refine thenQ_e ?_
  refine thenQ_e ?_
  refine inB_eq rfl ?_
  refine thenQ_n ?_
  refine E_seq ?_
  refine E_seqR ?_
  refine EL_val (R_assign rfl) rfl rfl rfl ?_
  refine EL_nil ?_
  refine E_block ?_
  refine E_loop (fun m' e' w'' => ∃ i AA, i ≤ L.length ∧ m' = L.length - i ∧ e' = [(0, ptr d), (1, .slice (AA) L.length c), (6, .int .i64 ((i : Nat) : Int))] ∧ WritesAt B w'' AA L ∧ RefAt w'' B d gl go CL CO cl co lf ov S ∧ Mods No w w'' ∧ ∀ k (hk : k < L.length), k < i → 0 ≤ L[k].1 ∧ L[k].1 < S.n) L.length [(0, ptr d), (1, .slice (A) L.length c), (6, .int .i64 ((0 : Nat) : Int))] ⟨rfl, rfl, rfl, trivial⟩
    ⟨0, A, by omega, by omega, rfl, hw, h, Mods.refl _ _, fun k _ hk => by omega⟩ ?_
  clear hw h hcO
  rintro m' e w' ⟨i, A, hi, rfl, rfl, hw, h, hm, hall⟩
  by_cases hlt : i < L.length
  · obtain ⟨g2, i2, rfl, hg2, hcell⟩ := hw.2 (by omega)
    obtain ⟨Ad, cd, h1, h2, h3⟩ := hcell i hlt
    by_cases hneg : L[i].1 < 0
    · have hP : putS S L = (S, 7) := by
        have : badAt S.n L = true := List.any_eq_true.2 ⟨L[i], List.getElem_mem _, by simp [hneg]⟩
        simp [putS, ho, hgood, this]
      rw [hP]
      refine E_seq ?_
      refine E_seqR ?_
      refine EL_val (R_move rfl) rfl rfl rfl ?_
      refine EL_val (R_move rfl) rfl rfl rfl ?_
      refine EL_val (R_lenSlice rfl Try.underlying40) rfl rfl rfl ?_
      first | refine EL_val (R_lss_t rfl rfl (by omega)) rfl rfl rfl ?_ | refine EL_val (R_lss_f rfl rfl (by omega)) rfl rfl rfl ?_
      refine EL_nil ?_
      refine E_cond_t rfl ?_
      refine E_skip ?_
      refine thenQ_n ?_
      refine E_seq ?_
      refine E_block ?_
      refine E_seqD (fun w' => [(1000, fun w'' => w'' = w')]) 19 K.mix rfl ?_
      intro w3 hm3 hh3
      refine EA_pure 0 rfl (fun _ => R_move rfl) (by kernel_rfl) rfl rfl rfl ?_
      refine EA_pure 1 rfl (fun _ => R_move rfl) (by kernel_rfl) rfl rfl rfl ?_
      refine EA_pure 2 rfl (fun _ => R_indexAddr rfl rfl Try.underlying40 K.sz34 (m := i) rfl hlt) (by kernel_rfl) rfl rfl rfl ?_
      refine EA_pure 3 rfl (fun _ => R_fieldAddr rfl K.fT34_0) (by kernel_rfl) rfl rfl rfl ?_
      refine EA_still 4 [1000] rfl (R_load rfl K.ag3 (hm3.cell h1 id)) rfl (by kernel_rfl) (by kernel_rfl) rfl rfl rfl ?_
      first | refine EA_pure 5 rfl (fun _ => R_lss_t rfl rfl (by omega)) (by kernel_rfl) rfl rfl rfl ?_ | refine EA_pure 5 rfl (fun _ => R_lss_f rfl rfl (by omega)) (by kernel_rfl) rfl rfl rfl ?_
      refine EA_pure 6 rfl (fun _ => R_move rfl) (by kernel_rfl) rfl rfl rfl ?_
      refine EA_not 7 rfl (by kernel_rfl) rfl rfl rfl ?_
      refine EA_not 8 rfl (by kernel_rfl) rfl rfl rfl ?_
      refine EA_not 9 rfl (by kernel_rfl) rfl rfl rfl ?_
      refine EA_not 10 rfl (by kernel_rfl) rfl rfl rfl ?_
      refine EA_not 11 rfl (by kernel_rfl) rfl rfl rfl ?_
      refine EA_not 12 rfl (by kernel_rfl) rfl rfl rfl ?_
      refine EA_not 13 rfl (by kernel_rfl) rfl rfl rfl ?_
      refine EA_not 14 rfl (by kernel_rfl) rfl rfl rfl ?_
      refine EA_not 15 rfl (by kernel_rfl) rfl rfl rfl ?_
      refine EA_not 16 rfl (by kernel_rfl) rfl rfl rfl ?_
      refine EA_not 17 rfl (by kernel_rfl) rfl rfl rfl ?_
      first | refine EA_pure 18 rfl (fun _ => R_pick_t rfl rfl) (by kernel_rfl) rfl rfl rfl ?_ | refine EA_pure 18 rfl (fun _ => R_pick_f rfl rfl) (by kernel_rfl) rfl rfl rfl ?_
      refine EA_done (by kernel_rfl) ⟨fun _ => rfl, trivial⟩ ?_
      refine E_cond_t rfl ?_
      refine E_seqR ?_
      refine EL_val (R_assign rfl) rfl rfl rfl ?_
      refine EL_nil ?_
      refine E_ret ?_
      refine inB_r (thenQ_r (thenQ_r (inB_r (thenQ_r ?_))))
      refine ret1 (.inr rfl) rfl rfl ?_
      exact ⟨rfl, (h.no hm3).ref, RM.of_no (hm.trans hm3)⟩
    · by_cases hbig : (S.n : Int) ≤ L[i].1
      · have hP : putS S L = (S, 7) := by
          have : badAt S.n L = true := List.any_eq_true.2 ⟨L[i], List.getElem_mem _, by simp [hbig]⟩
          simp [putS, ho, hgood, this]
        rw [hP]
        refine E_seq ?_
        refine E_seqR ?_
        refine EL_val (R_move rfl) rfl rfl rfl ?_
        refine EL_val (R_move rfl) rfl rfl rfl ?_
        refine EL_val (R_lenSlice rfl Try.underlying40) rfl rfl rfl ?_
        first | refine EL_val (R_lss_t rfl rfl (by omega)) rfl rfl rfl ?_ | refine EL_val (R_lss_f rfl rfl (by omega)) rfl rfl rfl ?_
        refine EL_nil ?_
        refine E_cond_t rfl ?_
        refine E_skip ?_
        refine thenQ_n ?_
        refine E_seq ?_
        refine E_block ?_
        refine E_seqD (fun w' => [(1000, fun w'' => w'' = w')]) 19 K.mix rfl ?_
        intro w3 hm3 hh3
        refine EA_pure 0 rfl (fun _ => R_move rfl) (by kernel_rfl) rfl rfl rfl ?_
        refine EA_pure 1 rfl (fun _ => R_move rfl) (by kernel_rfl) rfl rfl rfl ?_
        refine EA_pure 2 rfl (fun _ => R_indexAddr rfl rfl Try.underlying40 K.sz34 (m := i) rfl hlt) (by kernel_rfl) rfl rfl rfl ?_
        refine EA_pure 3 rfl (fun _ => R_fieldAddr rfl K.fT34_0) (by kernel_rfl) rfl rfl rfl ?_
        refine EA_still 4 [1000] rfl (R_load rfl K.ag3 (hm3.cell h1 id)) rfl (by kernel_rfl) (by kernel_rfl) rfl rfl rfl ?_
        first | refine EA_pure 5 rfl (fun _ => R_lss_t rfl rfl (by omega)) (by kernel_rfl) rfl rfl rfl ?_ | refine EA_pure 5 rfl (fun _ => R_lss_f rfl rfl (by omega)) (by kernel_rfl) rfl rfl rfl ?_
        refine EA_pure 6 rfl (fun _ => R_move rfl) (by kernel_rfl) rfl rfl rfl ?_
        first | refine EA_pure 7 rfl (fun _ => R_move rfl) (by kernel_rfl) rfl rfl rfl ?_ | refine EA_not 7 rfl (by kernel_rfl) rfl rfl rfl ?_
        first | refine EA_pure 8 rfl (fun _ => R_move rfl) (by kernel_rfl) rfl rfl rfl ?_ | refine EA_not 8 rfl (by kernel_rfl) rfl rfl rfl ?_
        refine EA_pure 9 rfl (fun _ => R_indexAddr rfl rfl Try.underlying40 K.sz34 (m := i) rfl hlt) (by kernel_rfl) rfl rfl rfl ?_
        first | refine EA_pure 10 rfl (fun _ => R_fieldAddr rfl K.fT34_0) (by kernel_rfl) rfl rfl rfl ?_ | refine EA_not 10 rfl (by kernel_rfl) rfl rfl rfl ?_
        refine EA_still 11 [1000] rfl (R_load rfl K.ag3 (hm3.cell h1 id)) rfl (by kernel_rfl) (by kernel_rfl) rfl rfl rfl ?_
        first | refine EA_pure 12 rfl (fun _ => R_move rfl) (by kernel_rfl) rfl rfl rfl ?_ | refine EA_not 12 rfl (by kernel_rfl) rfl rfl rfl ?_
        first | refine EA_pure 13 rfl (fun _ => R_nilCheck rfl) (by kernel_rfl) rfl rfl rfl ?_ | refine EA_not 13 rfl (by kernel_rfl) rfl rfl rfl ?_
        first | refine EA_pure 14 rfl (fun _ => R_fieldAddr rfl K.fT52_0) (by kernel_rfl) rfl rfl rfl ?_ | refine EA_not 14 rfl (by kernel_rfl) rfl rfl rfl ?_
        refine EA_still 15 [1000] rfl (R_load rfl K.ag31 ((h.no hm3).cLast)) rfl (by kernel_rfl) (by kernel_rfl) rfl rfl rfl ?_
        first | refine EA_pure 16 rfl (fun _ => R_lenSlice rfl Try.underlying31) (by kernel_rfl) rfl rfl rfl ?_ | refine EA_not 16 rfl (by kernel_rfl) rfl rfl rfl ?_
        first | refine EA_pure 17 rfl (fun _ => R_geq_t rfl rfl (by omega)) (by kernel_rfl) rfl rfl rfl ?_ | refine EA_pure 17 rfl (fun _ => R_geq_f rfl rfl (by omega)) (by kernel_rfl) rfl rfl rfl ?_ | refine EA_not 17 rfl (by kernel_rfl) rfl rfl rfl ?_
        first | refine EA_pure 18 rfl (fun _ => R_pick_t rfl rfl) (by kernel_rfl) rfl rfl rfl ?_ | refine EA_pure 18 rfl (fun _ => R_pick_f rfl rfl) (by kernel_rfl) rfl rfl rfl ?_
        refine EA_done (by kernel_rfl) ⟨fun _ => rfl, trivial⟩ ?_
        refine E_cond_t rfl ?_
        refine E_seqR ?_
        refine EL_val (R_assign rfl) rfl rfl rfl ?_
        refine EL_nil ?_
        refine E_ret ?_
        refine inB_r (thenQ_r (thenQ_r (inB_r (thenQ_r ?_))))
        refine ret1 (.inr rfl) rfl rfl ?_
        exact ⟨rfl, (h.no hm3).ref, RM.of_no (hm.trans hm3)⟩
      · refine E_seq ?_
        refine E_seqR ?_
        refine EL_val (R_move rfl) rfl rfl rfl ?_
        refine EL_val (R_move rfl) rfl rfl rfl ?_
        refine EL_val (R_lenSlice rfl Try.underlying40) rfl rfl rfl ?_
        first | refine EL_val (R_lss_t rfl rfl (by omega)) rfl rfl rfl ?_ | refine EL_val (R_lss_f rfl rfl (by omega)) rfl rfl rfl ?_
        refine EL_nil ?_
        refine E_cond_t rfl ?_
        refine E_skip ?_
        refine thenQ_n ?_
        refine E_seq ?_
        refine E_block ?_
        refine E_seqD (fun w' => [(1000, fun w'' => w'' = w')]) 19 K.mix rfl ?_
        intro w3 hm3 hh3
        refine EA_pure 0 rfl (fun _ => R_move rfl) (by kernel_rfl) rfl rfl rfl ?_
        refine EA_pure 1 rfl (fun _ => R_move rfl) (by kernel_rfl) rfl rfl rfl ?_
        refine EA_pure 2 rfl (fun _ => R_indexAddr rfl rfl Try.underlying40 K.sz34 (m := i) rfl hlt) (by kernel_rfl) rfl rfl rfl ?_
        refine EA_pure 3 rfl (fun _ => R_fieldAddr rfl K.fT34_0) (by kernel_rfl) rfl rfl rfl ?_
        refine EA_still 4 [1000] rfl (R_load rfl K.ag3 (hm3.cell h1 id)) rfl (by kernel_rfl) (by kernel_rfl) rfl rfl rfl ?_
        first | refine EA_pure 5 rfl (fun _ => R_lss_t rfl rfl (by omega)) (by kernel_rfl) rfl rfl rfl ?_ | refine EA_pure 5 rfl (fun _ => R_lss_f rfl rfl (by omega)) (by kernel_rfl) rfl rfl rfl ?_
        refine EA_pure 6 rfl (fun _ => R_move rfl) (by kernel_rfl) rfl rfl rfl ?_
        first | refine EA_pure 7 rfl (fun _ => R_move rfl) (by kernel_rfl) rfl rfl rfl ?_ | refine EA_not 7 rfl (by kernel_rfl) rfl rfl rfl ?_
        first | refine EA_pure 8 rfl (fun _ => R_move rfl) (by kernel_rfl) rfl rfl rfl ?_ | refine EA_not 8 rfl (by kernel_rfl) rfl rfl rfl ?_
        refine EA_pure 9 rfl (fun _ => R_indexAddr rfl rfl Try.underlying40 K.sz34 (m := i) rfl hlt) (by kernel_rfl) rfl rfl rfl ?_
        first | refine EA_pure 10 rfl (fun _ => R_fieldAddr rfl K.fT34_0) (by kernel_rfl) rfl rfl rfl ?_ | refine EA_not 10 rfl (by kernel_rfl) rfl rfl rfl ?_
        refine EA_still 11 [1000] rfl (R_load rfl K.ag3 (hm3.cell h1 id)) rfl (by kernel_rfl) (by kernel_rfl) rfl rfl rfl ?_
        first | refine EA_pure 12 rfl (fun _ => R_move rfl) (by kernel_rfl) rfl rfl rfl ?_ | refine EA_not 12 rfl (by kernel_rfl) rfl rfl rfl ?_
        first | refine EA_pure 13 rfl (fun _ => R_nilCheck rfl) (by kernel_rfl) rfl rfl rfl ?_ | refine EA_not 13 rfl (by kernel_rfl) rfl rfl rfl ?_
        first | refine EA_pure 14 rfl (fun _ => R_fieldAddr rfl K.fT52_0) (by kernel_rfl) rfl rfl rfl ?_ | refine EA_not 14 rfl (by kernel_rfl) rfl rfl rfl ?_
        refine EA_still 15 [1000] rfl (R_load rfl K.ag31 ((h.no hm3).cLast)) rfl (by kernel_rfl) (by kernel_rfl) rfl rfl rfl ?_
        first | refine EA_pure 16 rfl (fun _ => R_lenSlice rfl Try.underlying31) (by kernel_rfl) rfl rfl rfl ?_ | refine EA_not 16 rfl (by kernel_rfl) rfl rfl rfl ?_
        first | refine EA_pure 17 rfl (fun _ => R_geq_t rfl rfl (by omega)) (by kernel_rfl) rfl rfl rfl ?_ | refine EA_pure 17 rfl (fun _ => R_geq_f rfl rfl (by omega)) (by kernel_rfl) rfl rfl rfl ?_ | refine EA_not 17 rfl (by kernel_rfl) rfl rfl rfl ?_
        first | refine EA_pure 18 rfl (fun _ => R_pick_t rfl rfl) (by kernel_rfl) rfl rfl rfl ?_ | refine EA_pure 18 rfl (fun _ => R_pick_f rfl rfl) (by kernel_rfl) rfl rfl rfl ?_
        refine EA_done (by kernel_rfl) ⟨fun _ => rfl, trivial⟩ ?_
        refine E_cond_f rfl ?_
        refine E_skip ?_
        refine inB_n ?_
        refine thenQ_n ?_
        refine E_region ?_
        refine EL_val (R_move rfl) rfl rfl rfl ?_
        first | refine EL_val (R_inc rfl (by omega)) rfl rfl rfl ?_ | refine EL_val (R_add_in rfl rfl (by omega) (by omega)) rfl rfl rfl ?_
        refine EL_val (R_assign rfl) rfl rfl rfl ?_
        refine EL_nil ?_
        refine thenQ_n ?_
        refine ⟨rfl, L.length - (i + 1), [(0, ptr d), (1, .slice (some ⟨g2, i2, none⟩) L.length c), (6, .int .i64 ((i + 1 : Nat) : Int))], by omega, ⟨rfl, rfl, rfl, trivial⟩, i + 1, _, by omega, rfl, rfl, hw.below (hm3.below (Nat.le_trans hB hm.size) fun _ _ => id), h.no hm3, hm.trans hm3, fun k hk hki => ?_⟩
        by_cases hki' : k = i
        · subst hki'; exact ⟨by omega, by omega⟩
        · exact hall k hk (by omega)
  have hin : badAt S.n L = false := by
    cases hb : badAt S.n L
    · rfl
    · obtain ⟨k, hk, hq⟩ := badAt_first hb
      have := hall k hk (by omega)
      omega
  clear hall
  have hP : putS S L = putL S L := by simp [putS, ho, hgood, hin]
  rw [hP]
  refine E_seq ?_
  refine E_seqR ?_
  refine EL_val (R_move rfl) rfl rfl rfl ?_
  refine EL_val (R_move rfl) rfl rfl rfl ?_
  refine EL_val (R_lenSlice rfl Try.underlying40) rfl rfl rfl ?_
  first | refine EL_val (R_lss_t rfl rfl (by omega)) rfl rfl rfl ?_ | refine EL_val (R_lss_f rfl rfl (by omega)) rfl rfl rfl ?_
  refine EL_nil ?_
  refine E_cond_f rfl ?_
  refine E_exit ?_
  refine thenQ_e ?_
  refine thenQ_e ?_
  refine inB_eq rfl ?_
  refine thenQ_n ?_
  refine E_seq ?_
  refine E_seqR ?_
  refine EL_val (R_assign rfl) rfl rfl rfl ?_
  refine EL_nil ?_
  refine E_block ?_
  refine E_loop (fun m' e' w'' => ∃ i AA CO' lf' ov' S', i ≤ L.length ∧ m' = L.length - i ∧ e' = [(0, ptr d), (1, .slice (AA) L.length c), (7, .int .i64 ((i : Nat) : Int))] ∧ WritesAt B w'' AA L ∧ RefAt w'' B d gl go CL CO' cl co lf' ov' S' ∧ RM B w w'' ∧ putL S L = putL S' (L.drop i) ∧ S'.n = S.n ∧ ∀ j, (S'.opn j).length ≤ (S.opn j).length + i) L.length [(0, ptr d), (1, .slice (A) L.length c), (7, .int .i64 ((0 : Nat) : Int))] ⟨rfl, rfl, rfl, trivial⟩
    ⟨0, A, CO, lf, ov, S, by omega, by omega, rfl, hw, h, RM.of_no hm, rfl, rfl, fun j => by omega⟩ ?_
  clear hm hw h
  rintro m' e w' ⟨i, A, CO', lf', ov', S', hi, rfl, rfl, hw, hD, hm, hput, hSn, hlen⟩
  have hBs := Nat.le_trans hB hm.size
  by_cases hlt : i < L.length
  · obtain ⟨g2, i2, rfl, hg2, hcell⟩ := hw.2 (by omega)
    obtain ⟨Ad, cd, h1, h2, h3⟩ := hcell i hlt
    have h64 := badLen_no hgood i hlt
    obtain ⟨hat0, hat1⟩ := badAt_no hin i hlt
    rw [h64] at h2
    have hdrop : L.drop i = (L[i].1, L[i].2) :: L.drop (i + 1) := by rw [List.drop_eq_getElem_cons hlt]
    rw [hdrop] at hput
    have hg := rgoes_ok hD
    rcases spend_cases S' with hs | hs
    · obtain ⟨S1, hS1⟩ : ∃ S1, S1 = (spendS S').1 := ⟨_, rfl⟩
      have hop : S1.opn = S'.opn := by rw [hS1]; exact (spend_opn S').1
      have hS1n : S1.n = S.n := by rw [hS1, spend_n, hSn]
      obtain ⟨r, hr⟩ : ∃ r : Nat, L[i].1 = (r : Int) := ⟨L[i].1.toNat, by omega⟩
      rw [hr] at h1
      have hrn : r < S1.n := by omega
      have hlen1 : (S1.opn r).length + 1 ≤ 2199023255552 := by
        have h1 := hlen r
        have h2 := hroom r (by omega)
        rw [hop]
        omega
      have hput' : putL S L = putL { S1 with opn := fup S1.opn r (S1.opn r ++ [L[i].2]) } (L.drop (i + 1)) := by
        rw [hput, hS1]
        simp only [putL, hs, if_true]
        rw [hr]
        rfl
      rw [hs, ← hS1] at hg
      refine E_seq ?_
      refine E_seqR ?_
      refine EL_val (R_move rfl) rfl rfl rfl ?_
      refine EL_val (R_move rfl) rfl rfl rfl ?_
      refine EL_val (R_lenSlice rfl Try.underlying40) rfl rfl rfl ?_
      first | refine EL_val (R_lss_t rfl rfl (by omega)) rfl rfl rfl ?_ | refine EL_val (R_lss_f rfl rfl (by omega)) rfl rfl rfl ?_
      refine EL_nil ?_
      refine E_cond_t rfl ?_
      refine E_skip ?_
      refine thenQ_n ?_
      refine E_seq ?_
      refine E_block ?_
      refine E_seq ?_
      refine E_seqR ?_
      refine EL_val (R_move rfl) rfl rfl rfl ?_
      refine EL_step rfl ?_
      refine EO_call K.bd26 rfl rfl (hg) ?_
      rintro _ w5 ⟨rfl, ⟨lf5, h5⟩, hm5⟩
      refine EL_nil ?_
      refine E_cond_f rfl ?_
      refine E_skip ?_
      refine thenQ_n ?_
      refine E_regionD (fun _ => [(29, fun W => W.cell? ⟨d, 0 + 1, none⟩ = some (.slice (some ⟨go, 0, none⟩) S1.n co)), (29, fun W => W.cell? ⟨g2, i2 + i * 2 + 0, none⟩ = some (.int .i64 (r : Int))), (27, fun W => W.cell? ⟨go, 0 + r * 1, none⟩ = some (ov' r)), (26, fun W => W.cell? ⟨g2, i2 + i * 2 + 1, none⟩ = some (.slice Ad 64 cd)), (26, fun W => Src W Ad 64 1 (L[i].2.map fun b => Value.int .u8 (b.toNat : Int)))]) 30 K.mix rfl ?_
      intro w6 hm6 hh6
      (have h6 := h5.no hm6; have hm56 := hm5.trans (RM.of_no hm6); have bl6 := hm56.below hBs; have hw6 := hw.below bl6; have h16 := (bl6.cell (p := ⟨g2, i2 + i * 2 + 0, none⟩) hg2).trans h1; have h26 := (bl6.cell (p := ⟨g2, i2 + i * 2 + 1, none⟩) hg2).trans h2; have hs6 : Src w6 Ad 64 1 (L[i].2.map fun b => Value.int .u8 (b.toNat : Int)) := (by have := (h3.below bl6).src; rwa [h64] at this))
      refine EA_pure 0 rfl (fun _ => R_move rfl) (by kernel_rfl) rfl rfl rfl ?_
      refine EA_pure 1 rfl (fun _ => R_nilCheck rfl) (by kernel_rfl) rfl rfl rfl ?_
      refine EA_pure 2 rfl (fun _ => R_fieldAddr rfl K.fT52_1) (by kernel_rfl) rfl rfl rfl ?_
      refine EA_load 3 0 [28, 29] rfl rfl K.ag30 rfl (by kernel_rfl) (by kernel_rfl) rfl rfl ?_
      refine EA_pure 4 rfl (fun _ => R_move rfl) (by kernel_rfl) rfl rfl rfl ?_
      refine EA_pure 5 rfl (fun _ => R_move rfl) (by kernel_rfl) rfl rfl rfl ?_
      refine EA_pure 6 rfl (fun _ => R_indexAddr rfl rfl Try.underlying40 K.sz34 (m := i) rfl hlt) (by kernel_rfl) rfl rfl rfl ?_
      refine EA_pure 7 rfl (fun _ => R_fieldAddr rfl K.fT34_0) (by kernel_rfl) rfl rfl rfl ?_
      refine EA_load 8 1 [28, 29] rfl rfl K.ag3 rfl (by kernel_rfl) (by kernel_rfl) rfl rfl ?_
      refine EA_pure 9 rfl (fun _ => R_move rfl) (by kernel_rfl) rfl rfl rfl ?_
      refine EA_pure 10 rfl (fun _ => R_nilCheck rfl) (by kernel_rfl) rfl rfl rfl ?_
      refine EA_pure 11 rfl (fun _ => R_fieldAddr rfl K.fT52_1) (by kernel_rfl) rfl rfl rfl ?_
      refine EA_load 12 0 [18, 19, 27, 28, 29] rfl rfl K.ag30 rfl (by kernel_rfl) (by kernel_rfl) rfl rfl ?_
      refine EA_pure 13 rfl (fun _ => R_move rfl) (by kernel_rfl) rfl rfl rfl ?_
      refine EA_pure 14 rfl (fun _ => R_move rfl) (by kernel_rfl) rfl rfl rfl ?_
      refine EA_pure 15 rfl (fun _ => R_indexAddr rfl rfl Try.underlying40 K.sz34 (m := i) rfl hlt) (by kernel_rfl) rfl rfl rfl ?_
      refine EA_pure 16 rfl (fun _ => R_fieldAddr rfl K.fT34_0) (by kernel_rfl) rfl rfl rfl ?_
      refine EA_load 17 1 [18, 19, 27, 28, 29] rfl rfl K.ag3 rfl (by kernel_rfl) (by kernel_rfl) rfl rfl ?_
      refine EA_pure 18 rfl (fun _ => R_indexAddr rfl rfl Try.underlying30 K.sz31 (m := r) rfl hrn) (by kernel_rfl) rfl rfl rfl ?_
      refine EA_load 19 2 [27, 28, 29] rfl rfl K.ag31 rfl (by kernel_rfl) (by kernel_rfl) rfl rfl ?_
      refine EA_pure 20 rfl (fun _ => R_move rfl) (by kernel_rfl) rfl rfl rfl ?_
      refine EA_pure 21 rfl (fun _ => R_move rfl) (by kernel_rfl) rfl rfl rfl ?_
      refine EA_pure 22 rfl (fun _ => R_indexAddr rfl rfl Try.underlying40 K.sz34 (m := i) rfl hlt) (by kernel_rfl) rfl rfl rfl ?_
      refine EA_pure 23 rfl (fun _ => R_fieldAddr rfl K.fT34_1) (by kernel_rfl) rfl rfl rfl ?_
      refine EA_load 24 3 [25, 26, 27, 28, 29] rfl rfl K.ag23 rfl (by kernel_rfl) (by kernel_rfl) rfl rfl ?_
      refine EA_lean 25 4 [26, 27, 28, 29] rfl rfl (fun W hW => R_bytesStr h64 hW rfl Try.underlying23 Try.underlying5 Try.underlying9) (by kernel_rfl) (by kernel_rfl) rfl rfl rfl ?_
      refine EA_one 26 rfl (by kernel_rfl) rfl ⟨fun _ => h6.cOpen, fun _ => h16, fun _ => h6.cRow hrn, fun _ => h26, fun _ => hs6, trivial⟩ ?_
      refine EO_buildSlice Try.underlying31 K.zr9 K.sz9 rfl rfl rfl (fill_whole rfl (by rw [size_madeCells])) rfl ?_
      intro w7 hn7
      (have h7 := h6.no hn7.mods; have bl7 := bl_no bl6 hBs hn7.mods; have h17 := (bl7.cell (p := ⟨g2, i2 + i * 2 + 0, none⟩) hg2).trans h1)
      refine EA_one 27 rfl (by kernel_rfl) rfl ⟨fun _ => h7.cOpen, fun _ => h17, fun _ => h7.cRow hrn, kl (by kernel_rfl), kl (by kernel_rfl), trivial⟩ ?_
      refine EO_append rfl rfl Try.underlying31 K.sz9 K.zr9 K.by9 rfl (by decide) (h7.own r hrn) (Src.bk hn7.bk 1 1 [.string (str L[i].2)] rfl (fun q u hq => by rw [Nat.zero_add]; show (#[.string (str L[i].2)] : Array Value)[q]? = some u; simpa using hq)) (by simp [Value.oneCell']) (by simp only [maxLen]; omega) (by omega) (by have := bl7.size; omega) rfl ?_
      intro v8 w8 ho8 hm8 hat8
      (obtain ⟨g8, cap8, cur8, rfl, hb8, hbk8, _⟩ := own_form ho8 (by omega); have hcop8 : w8.cell? ⟨d, 0 + 1, none⟩ = some (.slice (some ⟨go, 0, none⟩) S1.n co) := (Mods.bk hm8 h7.hd (own_ne (h7.own r hrn) h7.hd (by decide))).cell rfl; have hbo8 := Mods.bk hm8 h7.ho (own_ne (h7.own r hrn) h7.ho (by decide)); have bl8 := bl_own bl7 hBs (h7.own r hrn) hm8; have h18 := (bl8.cell (p := ⟨g2, i2 + i * 2 + 0, none⟩) hg2).trans h1)
      refine EA_pure 28 rfl (fun _ => R_indexAddr rfl rfl Try.underlying30 K.sz31 (m := r) rfl hrn) (by kernel_rfl) rfl rfl rfl ?_
      refine EA_one 29 rfl (by kernel_rfl) rfl ⟨fun _ => hcop8, fun _ => h18, kl (by kernel_rfl), kl (by kernel_rfl), kl (by kernel_rfl), trivial⟩ ?_
      refine EO_store1 rfl rfl K.sz31 rfl hbo8 (by have := (Array.getElem?_eq_some_iff.1 (h7.row r hrn)).1; omega) ?_
      intro w9 hu9
      refine EA_done (by kernel_rfl) (Holds.done (by kernel_rfl)) ?_
      refine inB_n ?_
      refine thenQ_n ?_
      refine E_region ?_
      refine EL_val (R_move rfl) rfl rfl rfl ?_
      first | refine EL_val (R_inc rfl (by omega)) rfl rfl rfl ?_ | refine EL_val (R_add_in rfl rfl (by omega) (by omega)) rfl rfl rfl ?_
      refine EL_val (R_assign rfl) rfl rfl rfl ?_
      refine EL_nil ?_
      refine thenQ_n ?_
      have hC9 : CO'.setIfInBounds (0 + r * 1) (.slice (some ⟨g8, 0, none⟩) ((S1.opn r).length + 1) cap8) = CO'.setIfInBounds r (.slice (some ⟨g8, 0, none⟩) ((S1.opn r).length + 1) cap8) := by rw [Nat.zero_add, Nat.mul_one]
      rw [hC9] at hu9
      have hown8 : w8.ownsRow B 9 1 (.slice (some ⟨g8, 0, none⟩) ((S1.opn r).length + 1) cap8) (S1.opn r ++ [L[i].2]).length (strW (S1.opn r ++ [L[i].2])) := by
        rw [List.length_append, show strW (S1.opn r ++ [L[i].2]) = strW (S1.opn r) ++ [.string (str L[i].2)] from by simp [strW]]
        exact ho8
      have h9 := h7.setOpen hrn hm8 hu9 hown8 (by
        rcases hat8 with hat8 | hat8
        · exact .inl hat8
        · exact .inr (.inr ⟨_, hat8, Nat.le_refl _⟩))
      have hm78 : RM B w7 w8 := Mods.mono hm8 fun k _ hk => by
        obtain ⟨hk1, cur, hk2⟩ := h7.ownBk hrn hk.symm
        exact ⟨hk1, cur, _, hk2, .inr (.inr rfl)⟩
      have hm9 : RM B w' w9 := (hm56.trans (RM.of_no hn7.mods)).trans (hm78.trans (RM.upd hu9 hbo8 h7.Bo (.inr (.inl rfl))))
      refine ⟨rfl, L.length - (i + 1), [(0, ptr d), (1, .slice (some ⟨g2, i2, none⟩) L.length c), (7, .int .i64 ((i + 1 : Nat) : Int))], by omega, ⟨rfl, rfl, rfl, trivial⟩, i + 1, _, _, _, _, _, by omega, rfl, rfl, hw.below (hm9.below hBs), h9, hm.trans hm9, hput', hS1n, fun j => ?_⟩
      have h1 := hlen j
      show (fup S1.opn r (S1.opn r ++ [L[i].2]) j).length ≤ _
      by_cases hj : j = r
      · subst hj
        rw [fup_at, hop, List.length_append]
        simp only [List.length_cons, List.length_nil]
        omega
      · rw [fup_ne _ _ hj, hop]
        omega
    · have hP3 : putL S L = ((spendS S').1, 8) := by rw [hput]; simp [putL, hs]
      rw [hP3]
      rw [hs] at hg
      refine E_seq ?_
      refine E_seqR ?_
      refine EL_val (R_move rfl) rfl rfl rfl ?_
      refine EL_val (R_move rfl) rfl rfl rfl ?_
      refine EL_val (R_lenSlice rfl Try.underlying40) rfl rfl rfl ?_
      first | refine EL_val (R_lss_t rfl rfl (by omega)) rfl rfl rfl ?_ | refine EL_val (R_lss_f rfl rfl (by omega)) rfl rfl rfl ?_
      refine EL_nil ?_
      refine E_cond_t rfl ?_
      refine E_skip ?_
      refine thenQ_n ?_
      refine E_seq ?_
      refine E_block ?_
      refine E_seq ?_
      refine E_seqR ?_
      refine EL_val (R_move rfl) rfl rfl rfl ?_
      refine EL_step rfl ?_
      refine EO_call K.bd26 rfl rfl (hg) ?_
      rintro _ w5 ⟨rfl, ⟨lf5, h5⟩, hm5⟩
      refine EL_nil ?_
      refine E_cond_t rfl ?_
      refine E_seqR ?_
      refine EL_val (R_assign rfl) rfl rfl rfl ?_
      refine EL_nil ?_
      refine E_ret ?_
      refine thenQ_r (inB_r (thenQ_r (thenQ_r (inB_r (thenQ_r ?_)))))
      refine ret1 (.inr rfl) rfl rfl ?_
      exact ⟨rfl, h5.ref, hm.trans hm5⟩
  · have hi' : i = L.length := by omega
    subst hi'
    rw [List.drop_length] at hput
    refine E_seq ?_
    refine E_seqR ?_
    refine EL_val (R_move rfl) rfl rfl rfl ?_
    refine EL_val (R_move rfl) rfl rfl rfl ?_
    refine EL_val (R_lenSlice rfl Try.underlying40) rfl rfl rfl ?_
    first | refine EL_val (R_lss_t rfl rfl (by omega)) rfl rfl rfl ?_ | refine EL_val (R_lss_f rfl rfl (by omega)) rfl rfl rfl ?_
    refine EL_nil ?_
    refine E_cond_f rfl ?_
    refine E_exit ?_
    refine thenQ_e ?_
    refine thenQ_e ?_
    refine inB_eq rfl ?_
    refine thenQ_n ?_
    refine E_seqR ?_
    refine EL_val (R_assign rfl) rfl rfl rfl ?_
    refine EL_nil ?_
    refine E_ret ?_
    refine ret1 (.inr rfl) rfl rfl ?_
    rw [hput]
    exact ⟨rfl, hD.ref, hm⟩
end
end Go.Proofs.Ytphnhhcefoghpaa
