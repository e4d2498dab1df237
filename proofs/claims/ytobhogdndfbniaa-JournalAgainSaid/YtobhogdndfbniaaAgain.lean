/- The law JournalAgain: the walk through its code. -/
import Derived.Test.YtobhogdndfbniaaJTools
set_option linter.unusedVariables false
set_option linter.unusedSimpArgs false
set_option maxRecDepth 100000
namespace Go.Proofs.Ytobhogdndfbniaa
open Go.EW Go.RowKit

theorem intsOff_arg {W w : World} {B : Nat} {A : Option Addr} {ks : List Int} (hk : IS W A ks) (hl : ks.length ≤ 9223372036854775807) (hlt : ∀ g i, 0 < ks.length → A = some ⟨g, i, none⟩ → g < W.heap.size) (hm : Mods No W w) (hB : W.heap.size ≤ B) : IntsOff B w A ks.length ks :=
  ⟨⟨rfl, hl, fun h0 => by
    obtain ⟨g, i, hA, hc⟩ := (hk.no hm).2 (by simpa using h0)
    exact ⟨g, i, hA, fun k x hx => hc k _ (by simp [ival, hx])⟩⟩, fun g i h0 hA hf => by
    have := hlt g i h0 hA
    have := hf.1
    omega⟩
/-- what is read behind a second opening is what was looked at -/
theorem again_plain {S : DS} {ks : List Int} {a0 : Nat} {s : Int} (hn : 64 ≤ S.n) (h64 : ∀ i, i < S.n → (nowS S i).length = 64) (ha : a0 < 40) (hs : 1 ≤ s) (hs2 : s ≤ 1073741824) :
    getHeadS (nowS (restartS (openT S a0 s) ks) 1) = some (((findL (logB S) a0 s).2.1 : Int), (findL (logB S) a0 s).2.2) ∧
    (openJ (restartS (openT S a0 s) ks) (findL (logB S) a0 s).2.1 (findL (logB S) a0 s).2.2).nA = (findL (logB S) a0 s).2.1 ∧ (openJ (restartS (openT S a0 s) ks) (findL (logB S) a0 s).2.1 (findL (logB S) a0 s).2.2).nS = (findL (logB S) a0 s).2.2 ∧
    ∀ i, i < S.n → i ≠ 1 → nowS (openJ (restartS (openT S a0 s) ks) (findL (logB S) a0 s).2.1 (findL (logB S) a0 s).2.2).st i = (lookB S.n (findL (logB S) a0 s).1.flatten (blocksS S)).getD i [] := by
  have hT1 := findL_seq (Bl := logB S) (a := a0) (s := s) hs2
  have hT2 := findL_at (Bl := logB S) (a := a0) (s := s) ha
  have hL64 := logB_64S hn h64
  have hnow1 : ∀ i, i < S.n → nowS (openT S a0 s) i = if i = 1 then headB ((findL (logB S) a0 s).2.1 : Int) (findL (logB S) a0 s).2.2 else (lastW (lookW S.n (findL (logB S) a0 s).1.flatten) i).getD (nowS S i) := fun i hi => openT_now hi
  have hlog1 : logB (openT S a0 s) = logB S := openT_log hn hL64
  have hopn1 : ∀ i, i < S.n → (openT S a0 s).opn i = [] := fun i hi => openT_opn hi
  have hn1 : (openT S a0 s).n = S.n := rfl
  obtain ⟨S1, hS1⟩ : ∃ S1, S1 = openT S a0 s := ⟨_, rfl⟩
  rw [← hS1] at hnow1 hlog1 hopn1 hn1 ⊢
  have hnow2 : ∀ i, i < S.n → nowS (restartS S1 ks) i = nowS S1 i := fun i hi => by
    rw [restartS_closed (by omega) (hopn1 i hi), now_closed (hopn1 i hi)]
  have hn2 : (restartS S1 ks).n = S.n := hn1
  have hlog2 : logB (restartS S1 ks) = logB S := (logB_congr (S := S1) (S' := restartS S1 ks) (by omega) rfl fun i h1 h2 => hnow2 i (by omega)).trans hlog1
  obtain ⟨S2, hS2⟩ : ∃ S2, S2 = restartS S1 ks := ⟨_, rfl⟩
  rw [← hS2] at hnow2 hn2 hlog2 ⊢
  obtain ⟨H1, hH1⟩ : ∃ H1, H1 = (findL (logB S) a0 s).2.1 := ⟨_, rfl⟩
  obtain ⟨H2, hH2⟩ : ∃ H2, H2 = (findL (logB S) a0 s).2.2 := ⟨_, rfl⟩
  have hstop := findL_stop (Bl := logB S) (a := a0) (s := s)
  have hpair : (findL (logB S) a0 s).2 = (H1, H2) := by rw [hH1, hH2]
  rw [hpair] at hstop
  rw [← hH1] at hT2 hnow1 ⊢
  rw [← hH2] at hT1 hnow1 ⊢
  have hok : headOk (H1 : Int) H2 = true := by simp [headOk]; omega
  refine ⟨?_, ?_, ?_, fun i hi h1 => ?_⟩
  · rw [hnow2 1 (by omega), hnow1 1 (by omega), if_pos rfl]
    exact getHead_put hok
  · show (findL (logB S2) H1 H2).2.1 = H1
    rw [hlog2, hstop]
  · show (findL (logB S2) H1 H2).2.2 = H2
    rw [hlog2, hstop]
  · show nowS (openT S2 H1 H2) i = _
    rw [openT_now (by omega), if_neg h1, hlog2, hstop, hnow2 i hi, hnow1 i hi, if_neg h1]
    unfold lookB
    rw [foldl_setB_at _ _ _ (by rw [blocksS_length]; exact hi)]
    rw [List.getD_eq_getElem?_getD, List.getElem?_eq_getElem (by rw [blocksS_length]; exact hi), blocksS_at S hi]
    rfl
set_option maxHeartbeats 4000000 in
theorem again_walk {w : World} {A1 A2 : Option Addr} {T : List (List UInt8)} {ks : List Int} {c1 c2 : Nat} (hT : BsArg w A1 T) (hk : IS w A2 ks) (hkl : ks.length ≤ 9223372036854775807) (hklt : ∀ g i, 0 < ks.length → A2 = some ⟨g, i, none⟩ → g < w.heap.size) :
    Ret Try.prog 5 [.slice A1 T.length c1, .slice A2 ks.length c2] w fun v w' => v = .bool true ∧ Mods No w w' := by
  have hTl := hT.1
  obtain ⟨B, hB⟩ : ∃ B, B = w.heap.size := ⟨_, rfl⟩
  refine Ret.enter Try.func5 rfl Try.ntmps5 rfl ?_
  simp only [argEnv, Nat.reduceAdd]
  refine E_seqR ?_
  refine EL_val (R_assign rfl) rfl rfl rfl ?_
  refine EL_nil ?_
  refine E_seqR ?_
  refine EL_step rfl ?_
  refine EO_call K.bd12 rfl rfl (new_ok (n := 480) (B := B) (by omega) (by omega) (by omega)) ?_
  rintro _ w1 ⟨d, rfl, hD1, hm1⟩
  refine EL_val (R_move rfl) rfl rfl rfl ?_
  refine EL_val (R_extract rfl rfl) rfl rfl rfl ?_
  refine EL_val (R_extract rfl rfl) rfl rfl rfl ?_
  refine EL_val (R_assign rfl) rfl rfl rfl ?_
  refine EL_val (R_assign rfl) rfl rfl rfl ?_
  refine EL_nil ?_
  refine E_seq ?_
  refine E_seqR ?_
  refine EL_step rfl ?_
  refine EO_call K.bd7 rfl rfl (awake16_ok) ?_
  rintro _ w2 ⟨rfl, hm2⟩
  refine EL_val (R_not rfl) rfl rfl rfl ?_
  refine EL_val (R_move rfl) rfl rfl rfl ?_
  first | refine EL_val (R_move rfl) rfl rfl rfl ?_ | refine EL_not rfl rfl rfl ?_
  first | refine EL_val (R_neq_t rfl rfl (by omega)) rfl rfl rfl ?_ | refine EL_val (R_neq_f rfl rfl (by omega)) rfl rfl rfl ?_ | refine EL_not rfl rfl rfl ?_
  first | refine EL_val (R_pick_t rfl rfl) rfl rfl rfl ?_ | refine EL_val (R_pick_f rfl rfl) rfl rfl rfl ?_
  refine EL_val (R_move rfl) rfl rfl rfl ?_
  first | refine EL_val (R_move rfl) rfl rfl rfl ?_ | refine EL_not rfl rfl rfl ?_
  first | refine EL_val (R_eqlPtrNil rfl Try.underlying29) rfl rfl rfl ?_ | refine EL_not rfl rfl rfl ?_
  first | refine EL_val (R_pick_t rfl rfl) rfl rfl rfl ?_ | refine EL_val (R_pick_f rfl rfl) rfl rfl rfl ?_
  refine EL_nil ?_
  refine E_cond_f rfl ?_
  refine E_skip ?_
  refine thenQ_n ?_
  refine E_seq ?_
  refine E_seqR ?_
  refine EL_val (R_assign rfl) rfl rfl rfl ?_
  refine EL_nil ?_
  have hD2 := hD1.no hm2
  have hm02 := hm1.trans hm2
  have hs2 := hm02.size
  refine E_cut (fun e0 w' => ∃ S, e0 = [(1, .slice A2 ks.length c2), (5, ptr d)] ∧ Disk w' B d S ∧ Free S ∧ S.n = 480 ∧ (∀ i, i < 480 → (S.opn i).length ≤ 1000) ∧ Mods No w w') ?_ ?_
  · refine E_block ?_
    refine E_loop (fun m' e' w' => ∃ i S, i ≤ 480 ∧ m' = 480 - i ∧ e' = [(0, .slice (A1) T.length c1), (1, .slice A2 ks.length c2), (5, ptr d), (7, .int .i64 ((i : Nat) : Int))] ∧ Disk w' B d S ∧ Free S ∧ S.n = 480 ∧ (∀ q, q < 480 → (S.opn q).length ≤ i) ∧ Mods No w w') 480 [(0, .slice (A1) T.length c1), (1, .slice A2 ks.length c2), (5, ptr d), (7, .int .i64 ((0 : Nat) : Int))] ⟨rfl, rfl, rfl, rfl, trivial⟩
      ⟨0, newS 480, by omega, rfl, rfl, hD2, ⟨rfl, rfl⟩, rfl, fun q _ => by simp [newS], hm02⟩ ?_
    clear hD1 hD2 hm1 hm2 hm02 hs2
    clear w1 w2
    rintro m' e w1 ⟨i, S, hi, rfl, rfl, hD, hf, hn, ho, hno⟩
    have hs1 := hno.size
    by_cases hin : i < T.length ∧ i < 480
    · obtain ⟨hi1, hi2⟩ := hin
      obtain ⟨gt, it, rfl, hct⟩ := hT.2 (by omega)
      obtain ⟨Ak, ck, hk1, hk2⟩ := hct i hi1
      obtain ⟨b, hb⟩ : ∃ b, b = pad64 T[i] := ⟨_, rfl⟩
      have hbl : b.length = 64 := by rw [hb]; exact pad64_length _
      have hgood : GoodW S.n [((i : Int), b)] := fun p hp => by rw [List.mem_singleton.1 hp]; exact ⟨by omega, by show (i : Int) < _; omega, hbl⟩
      refine E_seq ?_
      refine E_seqR ?_
      refine EL_val (R_move rfl) rfl rfl rfl ?_
      refine EL_val (R_move rfl) rfl rfl rfl ?_
      refine EL_val (R_lenSlice rfl Try.underlying22) rfl rfl rfl ?_
      first | refine EL_val (R_lss_t rfl rfl (by omega)) rfl rfl rfl ?_ | refine EL_val (R_lss_f rfl rfl (by omega)) rfl rfl rfl ?_
      refine EL_val (R_move rfl) rfl rfl rfl ?_
      first | refine EL_val (R_move rfl) rfl rfl rfl ?_ | refine EL_not rfl rfl rfl ?_
      first | refine EL_val (R_lss_t rfl rfl (by omega)) rfl rfl rfl ?_ | refine EL_val (R_lss_f rfl rfl (by omega)) rfl rfl rfl ?_ | refine EL_not rfl rfl rfl ?_
      first | refine EL_val (R_pick_t rfl rfl) rfl rfl rfl ?_ | refine EL_val (R_pick_f rfl rfl) rfl rfl rfl ?_
      refine EL_nil ?_
      refine E_cond_t rfl ?_
      refine E_skip ?_
      refine thenQ_n ?_
      refine E_seq ?_
      refine E_block ?_
      refine E_seqR ?_
      refine EL_step rfl ?_
      refine EO_makeSlice 64 64 rfl rfl Try.underlying23 K.zr5 K.sz5 K.by5 (by first | rfl | omega) (by first | rfl | omega) (by omega) (by omega) (by omega) rfl ?_
      intro w2 hn2
      refine EL_val (R_assign rfl) rfl rfl rfl ?_
      refine EL_nil ?_
      refine E_seqR ?_
      refine EL_val (R_move rfl) rfl rfl rfl ?_
      refine EL_val (R_move rfl) rfl rfl rfl ?_
      refine EL_val (R_move rfl) rfl rfl rfl ?_
      refine EL_val (R_indexAddr rfl rfl Try.underlying22 K.sz23 (m := i) rfl hi1) rfl rfl rfl ?_
      refine EL_val (R_load rfl K.ag23 ((by rw [Nat.mul_one]; exact (hno.trans hn2.mods).cell hk1 id))) rfl rfl rfl ?_
      refine EL_step rfl ?_
      refine EO_copy hn2.bk (hk2.no (hno.trans hn2.mods)) bval_one (by rw [size_madeCells]; omega) rfl rfl Try.underlying23 K.sz5 rfl ?_
      intro w3 hu3
      (have hob3 : OB B w3 (.slice (some ⟨w1.heap.size, 0, none⟩) 64 64) b := (by rw [hb]; exact ob_pad (OB.new hn2 (by omega) (by simp only [maxLen]; omega)) hn2.bk hu3); have hno13 : Mods No w1 w3 := hn2.mods.trans' hu3.mods (fun k hk e => by omega); have hs2 := hn2.size; have hs3 := hu3.size; have hD3 := hD.no hno13)
      refine EL_nil ?_
      refine E_seqR ?_
      refine EL_val (R_move rfl) rfl rfl rfl ?_
      refine EL_val (R_move rfl) rfl rfl rfl ?_
      refine EL_val (R_move rfl) rfl rfl rfl ?_
      refine EL_val (R_build (cells := #[.int .i64 (i : Int), .slice (some ⟨w1.heap.size, 0, none⟩) 64 64]) K.zr35 K.pl35 rfl rfl) rfl rfl rfl ?_
      refine EL_step rfl ?_
      refine EO_buildSlice Try.underlying42 K.zr35 K.sz35 rfl rfl rfl (fill_whole rfl (by rw [size_madeCells])) rfl ?_
      intro w4 hn4
      (have hob4 := hn4.mods.own hob3 (fun _ _ h => h); have hD4 := hD3.no hn4.mods; have hs4 := hn4.size; have hw4 : Writes B w4 (some ⟨w3.heap.size, 0, none⟩) [((i : Int), b)] := (by refine writes_one (c := 64) (base := B) (A := some ⟨w1.heap.size, 0, none⟩) ?_ ?_; rw [hbl]; exact hn4.bk; rw [hbl]; exact hob4))
      refine EL_step rfl ?_
      refine EO_call K.bd16 rfl rfl (put_on hD4 hf (by omega) hw4 1 hgood (fun q hq => by have := ho q (by omega); simp; omega)) ?_
      rintro _ w5 ⟨rfl, hD5, hm5⟩
      first | refine EL_val (R_neq_t rfl rfl (by omega)) rfl rfl rfl ?_ | refine EL_val (R_neq_f rfl rfl (by omega)) rfl rfl rfl ?_
      refine EL_nil ?_
      refine E_cond_f rfl ?_
      refine E_skip ?_
      refine inB_n ?_
      refine thenQ_n ?_
      refine E_region ?_
      refine EL_val (R_move rfl) rfl rfl rfl ?_
      first | refine EL_val (R_inc rfl (by omega)) rfl rfl rfl ?_ | refine EL_val (R_add_in rfl rfl (by omega) (by omega)) rfl rfl rfl ?_
      refine EL_val (R_assign rfl) rfl rfl rfl ?_
      refine EL_nil ?_
      refine thenQ_n ?_
      exact ⟨rfl, 480 - (i + 1), [(0, .slice (some ⟨gt, it, none⟩) T.length c1), (1, .slice A2 ks.length c2), (5, ptr d), (7, .int .i64 ((i + 1 : Nat) : Int))], by omega, ⟨rfl, rfl, rfl, rfl, trivial⟩, i + 1, _, by omega, rfl, rfl, hD5, putF_free hf, hn, fun q hq => by
        show (S.opn q ++ putsTo _ q).length ≤ _
        have h1 := ho q hq
        have h2 := putsTo_le [((i : Int), b)] q
        simp only [List.length_append, List.length_cons, List.length_nil] at h2 ⊢
        omega, TM.no_of ((hno.trans hno13).trans hn4.mods) hm5.jt (by omega)⟩
    · have hex : ¬ i < T.length ∨ (i < T.length ∧ ¬ i < 480) := by omega
      rcases hex with hx | ⟨hx1, hx2⟩
      · refine E_seq ?_
        refine E_seqR ?_
        refine EL_val (R_move rfl) rfl rfl rfl ?_
        refine EL_val (R_move rfl) rfl rfl rfl ?_
        refine EL_val (R_lenSlice rfl Try.underlying22) rfl rfl rfl ?_
        first | refine EL_val (R_lss_t rfl rfl (by omega)) rfl rfl rfl ?_ | refine EL_val (R_lss_f rfl rfl (by omega)) rfl rfl rfl ?_
        refine EL_val (R_move rfl) rfl rfl rfl ?_
        first | refine EL_val (R_move rfl) rfl rfl rfl ?_ | refine EL_not rfl rfl rfl ?_
        first | refine EL_val (R_lss_t rfl rfl (by omega)) rfl rfl rfl ?_ | refine EL_val (R_lss_f rfl rfl (by omega)) rfl rfl rfl ?_ | refine EL_not rfl rfl rfl ?_
        first | refine EL_val (R_pick_t rfl rfl) rfl rfl rfl ?_ | refine EL_val (R_pick_f rfl rfl) rfl rfl rfl ?_
        refine EL_nil ?_
        refine E_cond_f rfl ?_
        refine E_exit ?_
        refine thenQ_e ?_
        refine thenQ_e ?_
        refine inB_eq rfl ?_
        refine thenQ_n ?_
        exact ⟨rfl, [(1, .slice A2 ks.length c2), (5, ptr d)], ⟨rfl, rfl, trivial⟩, S, rfl, hD, hf, hn, fun q hq => by have := ho q hq; omega, hno⟩
      · refine E_seq ?_
        refine E_seqR ?_
        refine EL_val (R_move rfl) rfl rfl rfl ?_
        refine EL_val (R_move rfl) rfl rfl rfl ?_
        refine EL_val (R_lenSlice rfl Try.underlying22) rfl rfl rfl ?_
        first | refine EL_val (R_lss_t rfl rfl (by omega)) rfl rfl rfl ?_ | refine EL_val (R_lss_f rfl rfl (by omega)) rfl rfl rfl ?_
        refine EL_val (R_move rfl) rfl rfl rfl ?_
        first | refine EL_val (R_move rfl) rfl rfl rfl ?_ | refine EL_not rfl rfl rfl ?_
        first | refine EL_val (R_lss_t rfl rfl (by omega)) rfl rfl rfl ?_ | refine EL_val (R_lss_f rfl rfl (by omega)) rfl rfl rfl ?_ | refine EL_not rfl rfl rfl ?_
        first | refine EL_val (R_pick_t rfl rfl) rfl rfl rfl ?_ | refine EL_val (R_pick_f rfl rfl) rfl rfl rfl ?_
        refine EL_nil ?_
        refine E_cond_f rfl ?_
        refine E_exit ?_
        refine thenQ_e ?_
        refine thenQ_e ?_
        refine inB_eq rfl ?_
        refine thenQ_n ?_
        exact ⟨rfl, [(1, .slice A2 ks.length c2), (5, ptr d)], ⟨rfl, rfl, trivial⟩, S, rfl, hD, hf, hn, fun q hq => by have := ho q hq; omega, hno⟩
  clear hD1 hD2 hm1 hm2 hm02 hs2
  clear w1 w2
  rintro e0 w1 ⟨S, rfl, hD, hf, hn, ho, hno⟩
  have hs1 := hno.size
  cases hg : getHeadS (nowS S 1) with
  | none =>

    refine E_seqR ?_
    refine EL_val (R_move rfl) rfl rfl rfl ?_
    refine EL_step rfl ?_
    refine EO_call K.bd14 rfl rfl (look_none hD hf (by omega) hg) ?_
    rintro _ w2 ⟨rfl, hm2⟩
    refine EL_val (R_move rfl) rfl rfl rfl ?_
    refine EL_val (R_extract rfl rfl) rfl rfl rfl ?_
    refine EL_val (R_extract rfl rfl) rfl rfl rfl ?_
    refine EL_val (R_assign rfl) rfl rfl rfl ?_
    refine EL_val (R_assign rfl) rfl rfl rfl ?_
    refine EL_nil ?_
    refine E_seqR ?_
    refine EL_val (R_move rfl) rfl rfl rfl ?_
    refine EL_step rfl ?_
    refine EO_call K.bd10 rfl rfl (openj_none (hD.no hm2) hf (by omega) hg) ?_
    rintro _ w3 ⟨rfl, hm3⟩
    refine EL_val (R_move rfl) rfl rfl rfl ?_
    refine EL_val (R_extract rfl rfl) rfl rfl rfl ?_
    refine EL_val (R_extract rfl rfl) rfl rfl rfl ?_
    refine EL_val (R_assign rfl) rfl rfl rfl ?_
    refine EL_val (R_assign rfl) rfl rfl rfl ?_
    refine EL_nil ?_
    refine E_seq ?_
    refine E_seqR ?_
    refine EL_val (R_move rfl) rfl rfl rfl ?_
    refine EL_val (R_move rfl) rfl rfl rfl ?_
    first | refine EL_val (R_neq_t rfl rfl (by omega)) rfl rfl rfl ?_ | refine EL_val (R_neq_f rfl rfl (by omega)) rfl rfl rfl ?_
    refine EL_val (R_move rfl) rfl rfl rfl ?_
    first | refine EL_val (R_move rfl) rfl rfl rfl ?_ | refine EL_not rfl rfl rfl ?_
    first | refine EL_val (R_neq_t rfl rfl (by omega)) rfl rfl rfl ?_ | refine EL_val (R_neq_f rfl rfl (by omega)) rfl rfl rfl ?_ | refine EL_not rfl rfl rfl ?_
    first | refine EL_val (R_pick_t rfl rfl) rfl rfl rfl ?_ | refine EL_val (R_pick_f rfl rfl) rfl rfl rfl ?_
    refine EL_nil ?_
    refine E_cond_t rfl ?_
    refine E_seqR ?_
    refine EL_val (R_move rfl) rfl rfl rfl ?_
    refine EL_val (R_move rfl) rfl rfl rfl ?_
    first | refine EL_val (R_eql_t rfl rfl (by omega)) rfl rfl rfl ?_ | refine EL_val (R_eql_f rfl rfl (by omega)) rfl rfl rfl ?_
    refine EL_val (R_move rfl) rfl rfl rfl ?_
    first | refine EL_val (R_move rfl) rfl rfl rfl ?_ | refine EL_not rfl rfl rfl ?_
    first | refine EL_val (R_eqlPtrNil rfl Try.underlying30) rfl rfl rfl ?_ | refine EL_not rfl rfl rfl ?_
    first | refine EL_val (R_pick_t rfl rfl) rfl rfl rfl ?_ | refine EL_val (R_pick_f rfl rfl) rfl rfl rfl ?_
    refine EL_val (R_assign rfl) rfl rfl rfl ?_
    refine EL_nil ?_
    refine E_ret ?_
    refine thenQ_r ?_
    refine ret1 (.inr rfl) rfl rfl ?_
    exact ⟨rfl, (hno.trans hm2).trans hm3⟩
  | some p =>
    obtain ⟨a, s⟩ := p
    obtain ⟨_, hok, _⟩ := getHeadS_length hg
    have hok' : (0 ≤ a ∧ a ≤ 39) ∧ 1 ≤ s ∧ s ≤ 1073741824 := by simpa [headOk] using hok
    obtain ⟨a0, rfl⟩ : ∃ a0 : Nat, a = (a0 : Int) := ⟨a.toNat, by omega⟩
    obtain ⟨hg2, hnA, hnS, hrd⟩ := again_plain (S := S) (ks := ks) (a0 := a0) (s := s) (by omega) (fun i hi => hD.now_len hi) (by omega) hok'.2.1 hok'.2.2
    obtain ⟨Bl, hBl⟩ : ∃ Bl, Bl = lookB S.n (findL (logB S) a0 s).1.flatten (blocksS S) := ⟨_, rfl⟩
    have hlk := fun {w : World} (hD : Disk w B d S) => look_some (w := w) hD hf (by omega) hg
    rw [← hBl] at hrd hlk
    have hBll : Bl.length = 480 := by rw [hBl]; unfold lookB; rw [foldl_setB_length, blocksS_length, hn]
    rw [hn] at hrd hlk
    have hopn1 : ∀ i, i < 480 → (openT S a0 s).opn i = [] := fun i hi => openT_opn (by omega)
    have hopj := fun {w : World} (hD : Disk w B d S) (hB : B ≤ w.heap.size) => openj_someD hD hf hB (by omega) (fun i hi => ho i (by omega)) hg
    obtain ⟨H1, hH1⟩ : ∃ H1, H1 = (findL (logB S) a0 s).2.1 := ⟨_, rfl⟩
    obtain ⟨H2, hH2⟩ : ∃ H2, H2 = (findL (logB S) a0 s).2.2 := ⟨_, rfl⟩
    have hJ : openJ S a0 s = ⟨openT S a0 s, H1, H2, H1, H2, 0⟩ := by rw [hH1, hH2]; rfl
    rw [← hH1, ← hH2] at hg2 hnA hnS hrd
    have hn1 : (openT S a0 s).n = 480 := hn
    obtain ⟨S1, hS1⟩ : ∃ S1, S1 = openT S a0 s := ⟨_, rfl⟩
    have hf1 : Free S1 := by rw [hS1]; exact hf
    rw [← hS1] at hJ hg2 hnA hnS hrd hopn1 hn1
    simp only [hJ] at hopj
    have hopk := fun {w : World} (hD : Disk w B d (restartS S1 ks)) (hB : B ≤ w.heap.size) => openj_someD hD (restartS_free _ _) hB (by show ¬ S1.n < 64; omega) (fun i hi => by rw [restartS_opn (S := S1) hi]; simp) hg2
    have hkn : (openJ (restartS S1 ks) H1 H2).st.n = 480 := hn1
    obtain ⟨Kj, hK⟩ : ∃ Kj, Kj = openJ (restartS S1 ks) H1 H2 := ⟨_, rfl⟩
    simp only [← hK] at hopk
    rw [← hK] at hnA hnS hrd hkn

    refine E_seqR ?_
    refine EL_val (R_move rfl) rfl rfl rfl ?_
    refine EL_step rfl ?_
    refine EO_call K.bd14 rfl rfl (hlk hD) ?_
    rintro _ w2 ⟨⟨gb, cb, xb, rfl, hob, hbr⟩, hm2⟩
    (have hs2 := hm2.size)
    refine EL_val (R_move rfl) rfl rfl rfl ?_
    refine EL_val (R_extract rfl rfl) rfl rfl rfl ?_
    refine EL_val (R_extract rfl rfl) rfl rfl rfl ?_
    refine EL_val (R_assign rfl) rfl rfl rfl ?_
    refine EL_val (R_assign rfl) rfl rfl rfl ?_
    refine EL_nil ?_
    refine E_seqR ?_
    refine EL_val (R_move rfl) rfl rfl rfl ?_
    refine EL_step rfl ?_
    refine EO_call K.bd10 rfl rfl (hopj (hD.no hm2) (by omega)) ?_
    rintro _ w3 ⟨j, rfl, hj3, hjs, hm3⟩
    (have hob3 := hm3.jt.own hob (by decide); have hs3 := hm3.size; have hno3 := TM.no_of (hno.trans hm2) hm3.jt (by omega))
    refine EL_val (R_move rfl) rfl rfl rfl ?_
    refine EL_val (R_extract rfl rfl) rfl rfl rfl ?_
    refine EL_val (R_extract rfl rfl) rfl rfl rfl ?_
    refine EL_val (R_assign rfl) rfl rfl rfl ?_
    refine EL_val (R_assign rfl) rfl rfl rfl ?_
    refine EL_nil ?_
    refine E_seq ?_
    refine E_seqR ?_
    refine EL_val (R_move rfl) rfl rfl rfl ?_
    refine EL_val (R_move rfl) rfl rfl rfl ?_
    first | refine EL_val (R_neq_t rfl rfl (by omega)) rfl rfl rfl ?_ | refine EL_val (R_neq_f rfl rfl (by omega)) rfl rfl rfl ?_
    refine EL_val (R_move rfl) rfl rfl rfl ?_
    first | refine EL_val (R_move rfl) rfl rfl rfl ?_ | refine EL_not rfl rfl rfl ?_
    first | refine EL_val (R_neq_t rfl rfl (by omega)) rfl rfl rfl ?_ | refine EL_val (R_neq_f rfl rfl (by omega)) rfl rfl rfl ?_ | refine EL_not rfl rfl rfl ?_
    first | refine EL_val (R_pick_t rfl rfl) rfl rfl rfl ?_ | refine EL_val (R_pick_f rfl rfl) rfl rfl rfl ?_
    refine EL_nil ?_
    refine E_cond_f rfl ?_
    refine E_skip ?_
    refine thenQ_n ?_
    refine E_seqR ?_
    refine EL_val (R_move rfl) rfl rfl rfl ?_
    refine EL_val (R_move rfl) rfl rfl rfl ?_
    refine EL_step rfl ?_
    refine EO_call K.bd9 rfl rfl (restart_on hj3.disk (intsOff_arg hk hkl hklt hno3 (by omega))) ?_
    rintro _ w4 ⟨hD4, hm4⟩
    (have hs4 := hm4.size)
    refine EL_nil ?_
    refine E_seqR ?_
    refine EL_val (R_move rfl) rfl rfl rfl ?_
    refine EL_step rfl ?_
    refine EO_call K.bd10 rfl rfl (hopk hD4 (by omega)) ?_
    rintro _ w5 ⟨k, rfl, hk5, hks, hm5⟩
    (have hm35 := hm4.trans hm5; have hj5 := hm35.bk hj3.bj (by decide))
    refine EL_val (R_move rfl) rfl rfl rfl ?_
    refine EL_val (R_extract rfl rfl) rfl rfl rfl ?_
    refine EL_val (R_extract rfl rfl) rfl rfl rfl ?_
    refine EL_val (R_assign rfl) rfl rfl rfl ?_
    refine EL_val (R_assign rfl) rfl rfl rfl ?_
    refine EL_nil ?_
    refine E_seq ?_
    refine E_seqR ?_
    refine EL_val (R_move rfl) rfl rfl rfl ?_
    first | refine EL_val (R_neq_t rfl rfl (by omega)) rfl rfl rfl ?_ | refine EL_val (R_neq_f rfl rfl (by omega)) rfl rfl rfl ?_
    refine EL_val (R_move rfl) rfl rfl rfl ?_
    first | refine EL_val (R_move rfl) rfl rfl rfl ?_ | refine EL_not rfl rfl rfl ?_
    first | refine EL_val (R_eqlPtrNil rfl Try.underlying30) rfl rfl rfl ?_ | refine EL_not rfl rfl rfl ?_
    first | refine EL_val (R_pick_t rfl rfl) rfl rfl rfl ?_ | refine EL_val (R_pick_f rfl rfl) rfl rfl rfl ?_
    refine EL_val (R_move rfl) rfl rfl rfl ?_
    first | refine EL_val (R_move rfl) rfl rfl rfl ?_ | refine EL_not rfl rfl rfl ?_
    first | refine EL_val (R_eqlPtrNil rfl Try.underlying30) rfl rfl rfl ?_ | refine EL_not rfl rfl rfl ?_
    first | refine EL_val (R_pick_t rfl rfl) rfl rfl rfl ?_ | refine EL_val (R_pick_f rfl rfl) rfl rfl rfl ?_
    refine EL_val (R_move rfl) rfl rfl rfl ?_
    first | refine EL_val (R_move rfl) rfl rfl rfl ?_ | refine EL_not rfl rfl rfl ?_
    refine EL_step rfl ?_
    refine EO_call K.bd13 rfl rfl (head_ok hk5) ?_
    rintro _ w6 ⟨rfl, hm6⟩
    first | refine EL_val (R_move rfl) rfl rfl rfl ?_ | refine EL_not rfl rfl rfl ?_
    refine EL_step rfl ?_
    refine EO_call K.bd13 rfl rfl (head_bk (hm6.bk' hj5)) ?_
    rintro _ w7 ⟨rfl, hm7⟩
    first | refine EL_val (R_neqAgg (b := true) rfl rfl (by rw [heads_eq]; simp [hnA, hnS])) rfl rfl rfl ?_ | refine EL_not rfl rfl rfl ?_
    first | refine EL_val (R_pick_t rfl rfl) rfl rfl rfl ?_ | refine EL_val (R_pick_f rfl rfl) rfl rfl rfl ?_
    refine EL_nil ?_
    refine E_cond_f rfl ?_
    refine E_skip ?_
    refine thenQ_n ?_
    refine E_seq ?_
    refine E_seqR ?_
    refine EL_val (R_assign rfl) rfl rfl rfl ?_
    refine EL_nil ?_
    refine E_block ?_
    have hk7 := (hk5.no hm6).no hm7
    have hob7 := (hm6.trans hm7).own (hm35.jt.own hob3 (by decide)) fun _ _ h => h
    have hbr7 : BR w7 w1.heap.size Bl xb := (((hbr.mods hm3.jt fun g C hb ⟨_, C', t, hb', ht⟩ => absurd ht (by rw [← (hb.inj hb').2]; decide)).mods hm35.jt fun g C hb ⟨_, C', t, hb', ht⟩ => absurd ht (by rw [← (hb.inj hb').2]; decide)).no hm6).no hm7
    have hno7 := TM.no_of hno3 (((hm35.jt).trans (TM.of_no hm6)).trans (TM.of_no hm7)) (by omega)
    clear hm2 hm3 hm4 hm5 hm6 hm7 hm35 hj3 hj5 hk5 hD4 hob hob3 hbr hlk hopj hopk
    refine E_loop (fun m' e' w' => ∃ i, i ≤ 480 ∧ m' = 480 - i ∧ e' = [(9, .slice (some ⟨gb, 0, none⟩) 480 cb), (13, ptr k), (15, .int .i64 ((i : Nat) : Int))] ∧ JAt w' B d k Kj ∧ w'.ownsRow w1.heap.size 23 1 (.slice (some ⟨gb, 0, none⟩) 480 cb) 480 xb ∧ BR w' w1.heap.size Bl xb ∧ Mods No w w') 480 [(9, .slice (some ⟨gb, 0, none⟩) 480 cb), (13, ptr k), (15, .int .i64 ((0 : Nat) : Int))] ⟨rfl, rfl, rfl, trivial⟩ ⟨0, by omega, rfl, rfl, hk7, hob7, hbr7, hno7⟩ ?_
    clear hk7 hob7 hbr7 hno7 hno3 hs2 hs3 hs4 hks hjs
    clear w2 w3 w4 w5 w6 w7
    rintro m' e w2 ⟨i, hi, rfl, rfl, hk2, hob2, hbr2, hno2⟩
    by_cases hi480 : i < 480
    · have hr := read_ok hk2 (i := i) (by omega)
      by_cases hi1 : i = 1
      · subst hi1
        refine E_seq ?_
        refine E_seqR ?_
        refine EL_val (R_move rfl) rfl rfl rfl ?_
        first | refine EL_val (R_lss_t rfl rfl (by omega)) rfl rfl rfl ?_ | refine EL_val (R_lss_f rfl rfl (by omega)) rfl rfl rfl ?_
        refine EL_nil ?_
        refine E_cond_t rfl ?_
        refine E_skip ?_
        refine thenQ_n ?_
        refine E_seq ?_
        refine E_block ?_
        refine E_seqR ?_
        refine EL_val (R_move rfl) rfl rfl rfl ?_
        refine EL_val (R_move rfl) rfl rfl rfl ?_
        refine EL_step rfl ?_
        refine EO_call K.bd11 rfl rfl (hr) ?_
        rintro _ w3 ⟨⟨u, rfl, hou⟩, hk3, hm3⟩
        refine EL_val (R_move rfl) rfl rfl rfl ?_
        refine EL_val (R_extract rfl rfl) rfl rfl rfl ?_
        refine EL_val (R_extract rfl rfl) rfl rfl rfl ?_
        refine EL_val (R_assign rfl) rfl rfl rfl ?_
        refine EL_val (R_assign rfl) rfl rfl rfl ?_
        refine EL_nil ?_
        refine E_seqD (fun w' => [(1000, fun w'' => w'' = w')]) 16 K.mix rfl ?_
        intro w23d hm23d hh23d
        refine EA_pure 0 rfl (fun _ => R_move rfl) (by kernel_rfl) rfl rfl rfl ?_
        first | refine EA_pure 1 rfl (fun _ => R_neq_t rfl rfl (by omega)) (by kernel_rfl) rfl rfl rfl ?_ | refine EA_pure 1 rfl (fun _ => R_neq_f rfl rfl (by omega)) (by kernel_rfl) rfl rfl rfl ?_
        refine EA_pure 2 rfl (fun _ => R_move rfl) (by kernel_rfl) rfl rfl rfl ?_
        first | refine EA_pure 3 rfl (fun _ => R_move rfl) (by kernel_rfl) rfl rfl rfl ?_ | refine EA_not 3 rfl (by kernel_rfl) rfl rfl rfl ?_
        first | refine EA_pure 4 rfl (fun _ => R_neq_t rfl rfl ((by omega))) (by kernel_rfl) rfl rfl rfl ?_ | refine EA_pure 4 rfl (fun _ => R_neq_f rfl rfl ((by omega))) (by kernel_rfl) rfl rfl rfl ?_
        first | refine EA_pure 5 rfl (fun _ => R_move rfl) (by kernel_rfl) rfl rfl rfl ?_ | refine EA_not 5 rfl (by kernel_rfl) rfl rfl rfl ?_
        first | refine EA_pure 6 rfl (fun _ => R_move rfl) (by kernel_rfl) rfl rfl rfl ?_ | refine EA_not 6 rfl (by kernel_rfl) rfl rfl rfl ?_
        refine EA_not 7 rfl (by kernel_rfl) rfl rfl rfl ?_
        first | refine EA_pure 8 rfl (fun _ => R_move rfl) (by kernel_rfl) rfl rfl rfl ?_ | refine EA_not 8 rfl (by kernel_rfl) rfl rfl rfl ?_
        first | refine EA_pure 9 rfl (fun _ => R_move rfl) (by kernel_rfl) rfl rfl rfl ?_ | refine EA_not 9 rfl (by kernel_rfl) rfl rfl rfl ?_
        refine EA_not 10 rfl (by kernel_rfl) rfl rfl rfl ?_
        refine EA_not 11 rfl (by kernel_rfl) rfl rfl rfl ?_
        refine EA_not 12 rfl (by kernel_rfl) rfl rfl rfl ?_
        refine EA_not 13 rfl (by kernel_rfl) rfl rfl rfl ?_
        first | refine EA_pure 14 rfl (fun _ => R_pick_t rfl rfl) (by kernel_rfl) rfl rfl rfl ?_ | refine EA_pure 14 rfl (fun _ => R_pick_f rfl rfl) (by kernel_rfl) rfl rfl rfl ?_ | refine EA_not 14 rfl (by kernel_rfl) rfl rfl rfl ?_
        first | refine EA_pure 15 rfl (fun _ => R_pick_t rfl rfl) (by kernel_rfl) rfl rfl rfl ?_ | refine EA_pure 15 rfl (fun _ => R_pick_f rfl rfl) (by kernel_rfl) rfl rfl rfl ?_
        refine EA_done (by kernel_rfl) ⟨fun _ => rfl, trivial⟩ ?_
        refine E_cond_f rfl ?_
        refine E_skip ?_
        refine inB_n ?_
        refine thenQ_n ?_
        refine E_region ?_
        refine EL_val (R_move rfl) rfl rfl rfl ?_
        first | refine EL_val (R_inc rfl (by omega)) rfl rfl rfl ?_ | refine EL_val (R_add_in rfl rfl (by omega) (by omega)) rfl rfl rfl ?_
        refine EL_val (R_assign rfl) rfl rfl rfl ?_
        refine EL_nil ?_
        refine thenQ_n ?_
        exact ⟨rfl, 478, [(9, .slice (some ⟨gb, 0, none⟩) 480 cb), (13, ptr k), (15, .int .i64 ((2 : Nat) : Int))], by omega, ⟨rfl, rfl, rfl, trivial⟩, 2, by omega, rfl, rfl, hk3.no hm23d, hm23d.own (hm3.own hob2 (by decide)) (fun _ _ h => h), (hbr2.mods hm3 fun g C hb ⟨_, C', t, hb', ht⟩ => absurd ht (by rw [← (hb.inj hb').2]; decide)).no hm23d, (TM.no_of hno2 hm3 (by omega)).trans hm23d⟩
      · have hrdi := hrd i hi480 hi1
        have hil : i < Bl.length := by omega
        rw [List.getD_eq_getElem?_getD, List.getElem?_eq_getElem hil, Option.getD_some] at hrdi
        obtain ⟨vl, hx, hol⟩ := hbr2.at_ i hil
        rw [← hrdi] at hol
        obtain ⟨Al, cl, rfl, _, _⟩ := own_sl hol
        refine E_seq ?_
        refine E_seqR ?_
        refine EL_val (R_move rfl) rfl rfl rfl ?_
        first | refine EL_val (R_lss_t rfl rfl (by omega)) rfl rfl rfl ?_ | refine EL_val (R_lss_f rfl rfl (by omega)) rfl rfl rfl ?_
        refine EL_nil ?_
        refine E_cond_t rfl ?_
        refine E_skip ?_
        refine thenQ_n ?_
        refine E_seq ?_
        refine E_block ?_
        refine E_seqR ?_
        refine EL_val (R_move rfl) rfl rfl rfl ?_
        refine EL_val (R_move rfl) rfl rfl rfl ?_
        refine EL_step rfl ?_
        refine EO_call K.bd11 rfl rfl (hr) ?_
        rintro _ w3 ⟨⟨u, rfl, hou⟩, hk3, hm3⟩
        (obtain ⟨Au, cu, rfl, _, _⟩ := own_sl hou)
        refine EL_val (R_move rfl) rfl rfl rfl ?_
        refine EL_val (R_extract rfl rfl) rfl rfl rfl ?_
        refine EL_val (R_extract rfl rfl) rfl rfl rfl ?_
        refine EL_val (R_assign rfl) rfl rfl rfl ?_
        refine EL_val (R_assign rfl) rfl rfl rfl ?_
        refine EL_nil ?_
        refine E_seqD (fun w' => [(1000, fun w'' => w'' = w')]) 16 K.mix rfl ?_
        intro w23d hm23d hh23d
        (have hob3 := hm23d.own (hm3.own hob2 (by decide)) (fun _ _ h => h); have hou3 := hm23d.own hou (fun _ _ h => h); have hol3 := hm23d.own (hm3.own hol (by decide)) (fun _ _ h => h))
        refine EA_pure 0 rfl (fun _ => R_move rfl) (by kernel_rfl) rfl rfl rfl ?_
        first | refine EA_pure 1 rfl (fun _ => R_neq_t rfl rfl (by omega)) (by kernel_rfl) rfl rfl rfl ?_ | refine EA_pure 1 rfl (fun _ => R_neq_f rfl rfl (by omega)) (by kernel_rfl) rfl rfl rfl ?_
        refine EA_pure 2 rfl (fun _ => R_move rfl) (by kernel_rfl) rfl rfl rfl ?_
        first | refine EA_pure 3 rfl (fun _ => R_move rfl) (by kernel_rfl) rfl rfl rfl ?_ | refine EA_not 3 rfl (by kernel_rfl) rfl rfl rfl ?_
        first | refine EA_pure 4 rfl (fun _ => R_neq_t rfl rfl ((by omega))) (by kernel_rfl) rfl rfl rfl ?_ | refine EA_pure 4 rfl (fun _ => R_neq_f rfl rfl ((by omega))) (by kernel_rfl) rfl rfl rfl ?_
        first | refine EA_pure 5 rfl (fun _ => R_move rfl) (by kernel_rfl) rfl rfl rfl ?_ | refine EA_not 5 rfl (by kernel_rfl) rfl rfl rfl ?_
        first | refine EA_pure 6 rfl (fun _ => R_move rfl) (by kernel_rfl) rfl rfl rfl ?_ | refine EA_not 6 rfl (by kernel_rfl) rfl rfl rfl ?_
        refine EA_still 7 [1000] rfl (R_bytesStr rfl (OB.src hou3) rfl Try.underlying23 Try.underlying5 Try.underlying9) rfl (by kernel_rfl) (by kernel_rfl) rfl rfl rfl ?_
        first | refine EA_pure 8 rfl (fun _ => R_move rfl) (by kernel_rfl) rfl rfl rfl ?_ | refine EA_not 8 rfl (by kernel_rfl) rfl rfl rfl ?_
        first | refine EA_pure 9 rfl (fun _ => R_move rfl) (by kernel_rfl) rfl rfl rfl ?_ | refine EA_not 9 rfl (by kernel_rfl) rfl rfl rfl ?_
        refine EA_pure 10 rfl (fun _ => R_indexAddr rfl rfl Try.underlying22 K.sz23 (m := i) rfl hi480) (by kernel_rfl) rfl rfl rfl ?_
        refine EA_still 11 [1000] rfl (R_load rfl K.ag23 ((by rw [Nat.zero_add, Nat.mul_one]; exact own_cell hob3 hx))) rfl (by kernel_rfl) (by kernel_rfl) rfl rfl rfl ?_
        refine EA_still 12 [1000] rfl (R_bytesStr rfl (OB.src hol3) rfl Try.underlying23 Try.underlying5 Try.underlying9) rfl (by kernel_rfl) (by kernel_rfl) rfl rfl rfl ?_
        first | refine EA_pure 13 rfl (fun _ => R_strNeq_t rfl rfl (fun h => h rfl)) (by kernel_rfl) rfl rfl rfl ?_ | refine EA_pure 13 rfl (fun _ => R_strNeq_f rfl rfl (fun h => h rfl)) (by kernel_rfl) rfl rfl rfl ?_
        first | refine EA_pure 14 rfl (fun _ => R_pick_t rfl rfl) (by kernel_rfl) rfl rfl rfl ?_ | refine EA_pure 14 rfl (fun _ => R_pick_f rfl rfl) (by kernel_rfl) rfl rfl rfl ?_ | refine EA_not 14 rfl (by kernel_rfl) rfl rfl rfl ?_
        first | refine EA_pure 15 rfl (fun _ => R_pick_t rfl rfl) (by kernel_rfl) rfl rfl rfl ?_ | refine EA_pure 15 rfl (fun _ => R_pick_f rfl rfl) (by kernel_rfl) rfl rfl rfl ?_
        refine EA_done (by kernel_rfl) ⟨fun _ => rfl, trivial⟩ ?_
        refine E_cond_f rfl ?_
        refine E_skip ?_
        refine inB_n ?_
        refine thenQ_n ?_
        refine E_region ?_
        refine EL_val (R_move rfl) rfl rfl rfl ?_
        first | refine EL_val (R_inc rfl (by omega)) rfl rfl rfl ?_ | refine EL_val (R_add_in rfl rfl (by omega) (by omega)) rfl rfl rfl ?_
        refine EL_val (R_assign rfl) rfl rfl rfl ?_
        refine EL_nil ?_
        refine thenQ_n ?_
        exact ⟨rfl, 480 - (i + 1), [(9, .slice (some ⟨gb, 0, none⟩) 480 cb), (13, ptr k), (15, .int .i64 ((i + 1 : Nat) : Int))], by omega, ⟨rfl, rfl, rfl, trivial⟩, i + 1, by omega, rfl, rfl, hk3.no hm23d, hob3, (hbr2.mods hm3 fun g C hb ⟨_, C', t, hb', ht⟩ => absurd ht (by rw [← (hb.inj hb').2]; decide)).no hm23d, (TM.no_of hno2 hm3 (by omega)).trans hm23d⟩
    · refine E_seq ?_
      refine E_seqR ?_
      refine EL_val (R_move rfl) rfl rfl rfl ?_
      first | refine EL_val (R_lss_t rfl rfl (by omega)) rfl rfl rfl ?_ | refine EL_val (R_lss_f rfl rfl (by omega)) rfl rfl rfl ?_
      refine EL_nil ?_
      refine E_cond_f rfl ?_
      refine E_exit ?_
      refine thenQ_e ?_
      refine thenQ_e ?_
      refine inB_eq rfl ?_
      refine thenQ_n ?_
      refine E_seqR ?_
      refine EL_val (R_assign rfl) rfl rfl rfl ?_
      refine EL_nil ?_
      refine E_ret ?_
      refine ret1 (.inr rfl) rfl rfl ?_
      exact ⟨rfl, hno2⟩
end Go.Proofs.Ytobhogdndfbniaa
