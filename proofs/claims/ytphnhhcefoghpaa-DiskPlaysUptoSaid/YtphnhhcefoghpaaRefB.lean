/- The document's disk: Barrier, Restart, Get, New, Put. -/
import Derived.Test.YtphnhhcefoghpaaRef
set_option linter.unusedVariables false
set_option linter.unusedSimpArgs false
set_option maxRecDepth 100000
namespace Go.Proofs.Ytphnhhcefoghpaa
open Go.EW Go.RowKit
section
variable {w w1 w' : World} {B d gl go : Nat} {CL CO : Array Value} {cl co : Nat} {lf : Int} {ov : Nat → Value} {S : DS}
theorem rbarrier_ok (h : RefAt w B d gl go CL CO cl co lf ov S) :
    Ret Try.prog 18 [ptr d] w fun v w' => v = .int .i64 (barrierS S).2 ∧ Ref w' B d (barrierS S).1 ∧ RM B w w' := by
  have hnle := h.nle
  cases ho : S.off
  · have hcO := h.cOff
    rw [ho] at hcO
    rcases spend_cases S with hs | hs
    · have hB : barrierS S = (allS (spendS S).1, 0) := by simp [barrierS, ho, hs]
      rw [hB]
      have hn := spend_n S
      have hg := rgoes_ok h
      rw [hs] at hg
      obtain ⟨S1, hS1⟩ : ∃ S1, S1 = (spendS S).1 := ⟨_, rfl⟩
      rw [← hS1] at hn hg ⊢
      refine Ret.enter Try.func18 rfl Try.ntmps18 rfl ?_
      simp only [argEnv, Nat.reduceAdd]
      refine E_seqR ?_
      refine EL_val (R_assign rfl) rfl rfl rfl ?_
      refine EL_nil ?_
      refine E_seq ?_
      refine E_seqR ?_
      refine EL_val (R_move rfl) rfl rfl rfl ?_
      refine EL_val (R_nilCheck rfl) rfl rfl rfl ?_
      refine EL_val (R_fieldAddr rfl K.fT52_3) rfl rfl rfl ?_
      refine EL_val (R_load rfl K.ag4 (hcO)) rfl rfl rfl ?_
      refine EL_val (R_move rfl) rfl rfl rfl ?_
      first | refine EL_val (R_move rfl) rfl rfl rfl ?_ | refine EL_not rfl rfl rfl ?_
      refine EL_step rfl ?_
      refine EO_call K.bd26 rfl rfl (hg) ?_
      rintro _ w1 ⟨rfl, ⟨lf1, h1⟩, hm1⟩
      first | refine EL_val (R_pick_t rfl rfl) rfl rfl rfl ?_ | refine EL_val (R_pick_f rfl rfl) rfl rfl rfl ?_
      refine EL_nil ?_
      refine E_cond_f rfl ?_
      refine E_skip ?_
      refine thenQ_n ?_
      refine E_seq ?_
      refine E_seqR ?_
      refine EL_val (R_assign rfl) rfl rfl rfl ?_
      refine EL_nil ?_
      refine E_block ?_
      refine E_loop (fun m e' w' => ∃ i CL' CO' ov', i ≤ S.n ∧ m = S.n - i ∧ e' = [(0, ptr d), (3, .int .i64 ((i : Nat) : Int))] ∧ RefAt w' B d gl go CL' CO' cl co lf1 ov' (keepAll S1 (fun j => (S1.opn j).length) i) ∧ RM B w w') S.n
        [(0, ptr d), (3, .int .i64 ((0 : Nat) : Int))] ⟨rfl, rfl, trivial⟩ ⟨0, _, _, _, by omega, by omega, rfl, by rw [keepAll_zero]; exact h1, hm1⟩ ?_
      rintro m e w' ⟨i, CL', CO', ov', hi, rfl, rfl, hD, hm⟩
      have hSn : (keepAll S1 (fun j => (S1.opn j).length) i).n = S.n := hn
      have hcop := hD.cOpen
      rw [hSn] at hcop
      by_cases hlt : i < S.n
      · have hi1 : i < (keepAll S1 (fun j => (S1.opn j).length) i).n := by omega
        obtain ⟨Ao, ca, hov, _⟩ := hD.form hi1
        have hrow := hD.cRow hi1
        rw [hov] at hrow
        have hlen : ((keepAll S1 (fun j => (S1.opn j).length) i).opn i).length = (S1.opn i).length := by simp [keepAll]
        rw [hlen] at hrow
        refine E_seq ?_
        refine E_seqR ?_
        refine EL_val (R_move rfl) rfl rfl rfl ?_
        refine EL_val (R_move rfl) rfl rfl rfl ?_
        refine EL_val (R_nilCheck rfl) rfl rfl rfl ?_
        refine EL_val (R_fieldAddr rfl K.fT52_1) rfl rfl rfl ?_
        refine EL_val (R_load rfl K.ag30 (hcop)) rfl rfl rfl ?_
        refine EL_val (R_lenSlice rfl Try.underlying30) rfl rfl rfl ?_
        first | refine EL_val (R_lss_t rfl rfl (by omega)) rfl rfl rfl ?_ | refine EL_val (R_lss_f rfl rfl (by omega)) rfl rfl rfl ?_
        refine EL_nil ?_
        refine E_cond_t rfl ?_
        refine E_skip ?_
        refine thenQ_n ?_
        refine E_seq ?_
        refine E_block ?_
        refine E_region ?_
        refine EL_val (R_move rfl) rfl rfl rfl ?_
        refine EL_val (R_move rfl) rfl rfl rfl ?_
        refine EL_val (R_move rfl) rfl rfl rfl ?_
        refine EL_val (R_nilCheck rfl) rfl rfl rfl ?_
        refine EL_val (R_fieldAddr rfl K.fT52_1) rfl rfl rfl ?_
        refine EL_val (R_load rfl K.ag30 (hcop)) rfl rfl rfl ?_
        refine EL_val (R_move rfl) rfl rfl rfl ?_
        refine EL_val (R_indexAddr rfl rfl Try.underlying30 K.sz31 (m := i) rfl hlt) rfl rfl rfl ?_
        refine EL_val (R_load rfl K.ag31 (hrow)) rfl rfl rfl ?_
        refine EL_val (R_lenSlice rfl Try.underlying31) rfl rfl rfl ?_
        refine EL_step rfl ?_
        refine EO_call K.bd27 rfl rfl ((rkeep_ok hD hi1 _)) ?_
        rintro v w8 ⟨⟨CL8, CO8, ov8, h8⟩, hm8⟩
        refine EL_nil ?_
        refine inB_n ?_
        refine thenQ_n ?_
        refine E_region ?_
        refine EL_val (R_move rfl) rfl rfl rfl ?_
        first | refine EL_val (R_inc rfl (by omega)) rfl rfl rfl ?_ | refine EL_val (R_add_in rfl rfl (by omega) (by omega)) rfl rfl rfl ?_
        refine EL_val (R_assign rfl) rfl rfl rfl ?_
        refine EL_nil ?_
        refine thenQ_n ?_
        refine ⟨rfl, S.n - (i + 1), [(0, ptr d), (3, .int .i64 ((i + 1 : Nat) : Int))], by omega, ⟨rfl, rfl, trivial⟩, i + 1, CL8, CO8, ov8, by omega, rfl, rfl, ?_, hm.trans hm8⟩
        rw [← keepAll_succ]; exact h8
      · have hi' : i = S.n := by omega
        subst hi'
        refine E_seq ?_
        refine E_seqR ?_
        refine EL_val (R_move rfl) rfl rfl rfl ?_
        refine EL_val (R_move rfl) rfl rfl rfl ?_
        refine EL_val (R_nilCheck rfl) rfl rfl rfl ?_
        refine EL_val (R_fieldAddr rfl K.fT52_1) rfl rfl rfl ?_
        refine EL_val (R_load rfl K.ag30 (hcop)) rfl rfl rfl ?_
        refine EL_val (R_lenSlice rfl Try.underlying30) rfl rfl rfl ?_
        first | refine EL_val (R_lss_t rfl rfl (by omega)) rfl rfl rfl ?_ | refine EL_val (R_lss_f rfl rfl (by omega)) rfl rfl rfl ?_
        refine EL_nil ?_
        refine E_cond_f rfl ?_
        refine E_exit ?_
        refine thenQ_e ?_
        refine thenQ_e ?_
        refine inB_eq rfl ?_
        refine thenQ_n ?_
        refine E_seqR ?_
        refine EL_val (R_assign rfl) rfl rfl rfl ?_
        refine EL_nil ?_
        refine E_ret ?_
        refine ret1 (.inr rfl) rfl rfl ?_
        refine ⟨rfl, ?_, hm⟩
        rw [show allS S1 = keepAll S1 (fun j => (S1.opn j).length) S.n from by rw [allS, hn]]
        exact hD.ref
    · have hB : barrierS S = ((spendS S).1, 8) := by simp [barrierS, ho, hs]
      rw [hB]
      have hg := rgoes_ok h
      rw [hs] at hg
      refine Ret.enter Try.func18 rfl Try.ntmps18 rfl ?_
      simp only [argEnv, Nat.reduceAdd]
      refine E_seqR ?_
      refine EL_val (R_assign rfl) rfl rfl rfl ?_
      refine EL_nil ?_
      refine E_seq ?_
      refine E_seqR ?_
      refine EL_val (R_move rfl) rfl rfl rfl ?_
      refine EL_val (R_nilCheck rfl) rfl rfl rfl ?_
      refine EL_val (R_fieldAddr rfl K.fT52_3) rfl rfl rfl ?_
      refine EL_val (R_load rfl K.ag4 (hcO)) rfl rfl rfl ?_
      refine EL_val (R_move rfl) rfl rfl rfl ?_
      first | refine EL_val (R_move rfl) rfl rfl rfl ?_ | refine EL_not rfl rfl rfl ?_
      refine EL_step rfl ?_
      refine EO_call K.bd26 rfl rfl (hg) ?_
      rintro _ w1 ⟨rfl, ⟨lf1, h1⟩, hm1⟩
      first | refine EL_val (R_pick_t rfl rfl) rfl rfl rfl ?_ | refine EL_val (R_pick_f rfl rfl) rfl rfl rfl ?_
      refine EL_nil ?_
      refine E_cond_t rfl ?_
      refine E_seqR ?_
      refine EL_val (R_assign rfl) rfl rfl rfl ?_
      refine EL_nil ?_
      refine E_ret ?_
      refine thenQ_r ?_
      refine ret1 (.inr rfl) rfl rfl ?_
      exact ⟨rfl, h1.ref, hm1⟩
  · have hcO := h.cOff
    rw [ho] at hcO
    have hB : barrierS S = (S, 8) := by simp [barrierS, ho]
    rw [hB]
    refine Ret.enter Try.func18 rfl Try.ntmps18 rfl ?_
    simp only [argEnv, Nat.reduceAdd]
    refine E_seqR ?_
    refine EL_val (R_assign rfl) rfl rfl rfl ?_
    refine EL_nil ?_
    refine E_seq ?_
    refine E_seqR ?_
    refine EL_val (R_move rfl) rfl rfl rfl ?_
    refine EL_val (R_nilCheck rfl) rfl rfl rfl ?_
    refine EL_val (R_fieldAddr rfl K.fT52_3) rfl rfl rfl ?_
    refine EL_val (R_load rfl K.ag4 (hcO)) rfl rfl rfl ?_
    refine EL_val (R_move rfl) rfl rfl rfl ?_
    refine EL_not rfl rfl rfl ?_
    refine EL_not rfl rfl rfl ?_
    first | refine EL_val (R_pick_t rfl rfl) rfl rfl rfl ?_ | refine EL_val (R_pick_f rfl rfl) rfl rfl rfl ?_
    refine EL_nil ?_
    refine E_cond_t rfl ?_
    refine E_seqR ?_
    refine EL_val (R_assign rfl) rfl rfl rfl ?_
    refine EL_nil ?_
    refine E_ret ?_
    refine thenQ_r ?_
    refine ret1 (.inr rfl) rfl rfl ?_
    exact ⟨rfl, h.ref, RM.refl _ _⟩
theorem rrestart_ok (h : RefAt w B d gl go CL CO cl co lf ov S) (hB : B ≤ w.heap.size) {A : Option Addr} {ks : List Int} {c : Nat} (hk : IntsAt B w A ks) :
    Ret Try.prog 20 [ptr d, .slice A ks.length c] w fun v w' => Ref w' B d (restartS S ks) ∧ RM B w w' := by
  have hnle := h.nle
  have hkl := hk.1
  refine Ret.enter Try.func20 rfl Try.ntmps20 rfl ?_
  simp only [argEnv, Nat.reduceAdd]
  refine E_seq ?_
  refine E_seqR ?_
  refine EL_val (R_assign rfl) rfl rfl rfl ?_
  refine EL_nil ?_
  refine E_block ?_
  refine E_loop (fun m' e' w' => ∃ i AA CL' CO' ov', i ≤ S.n ∧ m' = S.n - i ∧ e' = [(0, ptr d), (1, .slice (AA) ks.length c), (4, .int .i64 ((i : Nat) : Int))] ∧ IntsAt B w AA ks ∧ RefAt w' B d gl go CL' CO' cl co lf ov' (keepAll S (keepF ks) i) ∧ RM B w w') S.n [(0, ptr d), (1, .slice (A) ks.length c), (4, .int .i64 ((0 : Nat) : Int))] ⟨rfl, rfl, rfl, trivial⟩
    ⟨0, A, CL, CO, ov, by omega, by omega, rfl, hk, by rw [keepAll_zero]; exact h, RM.refl _ _⟩ ?_
  clear hk
  rintro m' e w' ⟨i, A, CL', CO', ov', hi, rfl, rfl, hk, hD, hm⟩
  have hcop : w'.cell? ⟨d, 1, none⟩ = some (.slice (some ⟨go, 0, none⟩) S.n co) := hD.cOpen
  by_cases hlt : i < S.n
  · have hi1 : i < (keepAll S (keepF ks) i).n := hlt
    by_cases hb : i < ks.length
    · obtain ⟨g2, i2, rfl, hg2, hc⟩ := hk.2 (by omega)
      have hx : keepF ks i = ks[i] := by simp [keepF, List.getD_eq_getElem?_getD, List.getElem?_eq_getElem hb]
      have hcell : w'.cell? ⟨g2, i2 + i * 1, none⟩ = some (.int .i64 (keepF ks i)) := by
        rw [Nat.mul_one]
        exact ((hm.below hB).cell (p := ⟨g2, i2 + i, none⟩) hg2).trans (hc i _ (by rw [hx]; exact List.getElem?_eq_getElem hb))
      refine E_seq ?_
      refine E_seqR ?_
      refine EL_val (R_move rfl) rfl rfl rfl ?_
      refine EL_val (R_move rfl) rfl rfl rfl ?_
      refine EL_val (R_nilCheck rfl) rfl rfl rfl ?_
      refine EL_val (R_fieldAddr rfl K.fT52_1) rfl rfl rfl ?_
      refine EL_val (R_load rfl K.ag30 (hcop)) rfl rfl rfl ?_
      refine EL_val (R_lenSlice rfl Try.underlying30) rfl rfl rfl ?_
      first | refine EL_val (R_lss_t rfl rfl (by omega)) rfl rfl rfl ?_ | refine EL_val (R_lss_f rfl rfl (by omega)) rfl rfl rfl ?_
      refine EL_nil ?_
      refine E_cond_t rfl ?_
      refine E_skip ?_
      refine thenQ_n ?_
      refine E_seq ?_
      refine E_block ?_
      refine E_seqR ?_
      refine EL_val (R_assign rfl) rfl rfl rfl ?_
      refine EL_nil ?_
      refine E_seq ?_
      refine E_seqR ?_
      refine EL_val (R_move rfl) rfl rfl rfl ?_
      refine EL_val (R_move rfl) rfl rfl rfl ?_
      refine EL_val (R_lenSlice rfl Try.underlying24) rfl rfl rfl ?_
      first | refine EL_val (R_lss_t rfl rfl (by omega)) rfl rfl rfl ?_ | refine EL_val (R_lss_f rfl rfl (by omega)) rfl rfl rfl ?_
      refine EL_nil ?_
      refine E_cond_t rfl ?_
      refine E_region ?_
      refine EL_val (R_move rfl) rfl rfl rfl ?_
      refine EL_val (R_move rfl) rfl rfl rfl ?_
      refine EL_val (R_indexAddr rfl rfl Try.underlying24 K.sz3 (m := i) rfl hb) rfl rfl rfl ?_
      refine EL_val (R_load rfl K.ag3 (hcell)) rfl rfl rfl ?_
      refine EL_val (R_assign rfl) rfl rfl rfl ?_
      refine EL_nil ?_
      refine thenQ_n ?_
      refine E_region ?_
      refine EL_val (R_move rfl) rfl rfl rfl ?_
      refine EL_val (R_move rfl) rfl rfl rfl ?_
      refine EL_val (R_move rfl) rfl rfl rfl ?_
      refine EL_step rfl ?_
      refine EO_call K.bd27 rfl rfl (rkeep_ok hD hi1 _) ?_
      rintro v w8 ⟨⟨CL8, CO8, ov8, h8⟩, hm8⟩
      refine EL_nil ?_
      refine inB_n ?_
      refine thenQ_n ?_
      refine E_region ?_
      refine EL_val (R_move rfl) rfl rfl rfl ?_
      first | refine EL_val (R_inc rfl (by omega)) rfl rfl rfl ?_ | refine EL_val (R_add_in rfl rfl (by omega) (by omega)) rfl rfl rfl ?_
      refine EL_val (R_assign rfl) rfl rfl rfl ?_
      refine EL_nil ?_
      refine thenQ_n ?_
      exact ⟨rfl, S.n - (i + 1), [(0, ptr d), (1, .slice (some ⟨g2, i2, none⟩) ks.length c), (4, .int .i64 ((i + 1 : Nat) : Int))], by omega, ⟨rfl, rfl, rfl, trivial⟩, i + 1, some ⟨g2, i2, none⟩, CL8, CO8, ov8, by omega, rfl, rfl, hk, by rw [← keepAll_succ]; exact h8, hm.trans hm8⟩
    · have hx : keepF ks i = 0 := by simp [keepF, List.getD_eq_getElem?_getD, List.getElem?_eq_none (show ks.length ≤ i by omega)]
      refine E_seq ?_
      refine E_seqR ?_
      refine EL_val (R_move rfl) rfl rfl rfl ?_
      refine EL_val (R_move rfl) rfl rfl rfl ?_
      refine EL_val (R_nilCheck rfl) rfl rfl rfl ?_
      refine EL_val (R_fieldAddr rfl K.fT52_1) rfl rfl rfl ?_
      refine EL_val (R_load rfl K.ag30 (hcop)) rfl rfl rfl ?_
      refine EL_val (R_lenSlice rfl Try.underlying30) rfl rfl rfl ?_
      first | refine EL_val (R_lss_t rfl rfl (by omega)) rfl rfl rfl ?_ | refine EL_val (R_lss_f rfl rfl (by omega)) rfl rfl rfl ?_
      refine EL_nil ?_
      refine E_cond_t rfl ?_
      refine E_skip ?_
      refine thenQ_n ?_
      refine E_seq ?_
      refine E_block ?_
      refine E_seqR ?_
      refine EL_val (R_assign rfl) rfl rfl rfl ?_
      refine EL_nil ?_
      refine E_seq ?_
      refine E_seqR ?_
      refine EL_val (R_move rfl) rfl rfl rfl ?_
      refine EL_val (R_move rfl) rfl rfl rfl ?_
      refine EL_val (R_lenSlice rfl Try.underlying24) rfl rfl rfl ?_
      first | refine EL_val (R_lss_t rfl rfl (by omega)) rfl rfl rfl ?_ | refine EL_val (R_lss_f rfl rfl (by omega)) rfl rfl rfl ?_
      refine EL_nil ?_
      refine E_cond_f rfl ?_
      refine E_skip ?_
      refine thenQ_n ?_
      refine E_region ?_
      refine EL_val (R_move rfl) rfl rfl rfl ?_
      refine EL_val (R_move rfl) rfl rfl rfl ?_
      refine EL_val (R_move rfl) rfl rfl rfl ?_
      refine EL_step rfl ?_
      refine EO_call K.bd27 rfl rfl (rkeep_ok hD hi1 _) ?_
      rintro v w8 ⟨⟨CL8, CO8, ov8, h8⟩, hm8⟩
      refine EL_nil ?_
      refine inB_n ?_
      refine thenQ_n ?_
      refine E_region ?_
      refine EL_val (R_move rfl) rfl rfl rfl ?_
      first | refine EL_val (R_inc rfl (by omega)) rfl rfl rfl ?_ | refine EL_val (R_add_in rfl rfl (by omega) (by omega)) rfl rfl rfl ?_
      refine EL_val (R_assign rfl) rfl rfl rfl ?_
      refine EL_nil ?_
      refine thenQ_n ?_
      exact ⟨rfl, S.n - (i + 1), [(0, ptr d), (1, .slice (A) ks.length c), (4, .int .i64 ((i + 1 : Nat) : Int))], by omega, ⟨rfl, rfl, rfl, trivial⟩, i + 1, A, CL8, CO8, ov8, by omega, rfl, rfl, hk, by rw [← keepAll_succ, hx]; exact h8, hm.trans hm8⟩
  · have hi' : i = S.n := by omega
    subst hi'
    refine E_seq ?_
    refine E_seqR ?_
    refine EL_val (R_move rfl) rfl rfl rfl ?_
    refine EL_val (R_move rfl) rfl rfl rfl ?_
    refine EL_val (R_nilCheck rfl) rfl rfl rfl ?_
    refine EL_val (R_fieldAddr rfl K.fT52_1) rfl rfl rfl ?_
    refine EL_val (R_load rfl K.ag30 (hcop)) rfl rfl rfl ?_
    refine EL_val (R_lenSlice rfl Try.underlying30) rfl rfl rfl ?_
    first | refine EL_val (R_lss_t rfl rfl (by omega)) rfl rfl rfl ?_ | refine EL_val (R_lss_f rfl rfl (by omega)) rfl rfl rfl ?_
    refine EL_nil ?_
    refine E_cond_f rfl ?_
    refine E_exit ?_
    refine thenQ_e ?_
    refine thenQ_e ?_
    refine inB_eq rfl ?_
    refine thenQ_n ?_
    refine E_seqR ?_
    refine EL_val (R_move rfl) rfl rfl rfl ?_
    refine EL_val (R_nilCheck rfl) rfl rfl rfl ?_
    refine EL_val (R_fieldAddr rfl K.fT52_3) rfl rfl rfl ?_
    refine EL_step rfl ?_
    refine EO_store1 rfl rfl K.sz4 rfl hD.hd (by simp) ?_
    intro w8 hu8
    refine EL_nil ?_
    refine E_region ?_
    refine EL_val (R_move rfl) rfl rfl rfl ?_
    refine EL_val (R_nilCheck rfl) rfl rfl rfl ?_
    refine EL_val (R_fieldAddr rfl K.fT52_2) rfl rfl rfl ?_
    refine EL_step rfl ?_
    refine EO_store1 rfl rfl K.sz3 rfl (hD.setPower (off := false) (lf' := lf) hD.lf0 hD.lf1 hu8).hd (by simp) ?_
    intro w9 hu9
    refine EL_nil ?_
    refine ret0 (.inl rfl) rfl ?_
    have h8 := hD.setPower (off := false) (lf' := lf) hD.lf0 hD.lf1 hu8
    have h9 := h8.setPower (off := false) (lf' := -1) (by omega) (by omega) hu9
    exact ⟨h9.ref, hm.trans ((RM.upd hu8 hD.hd hD.Bd (.inl rfl)).trans (RM.upd hu9 h8.hd h8.Bd (.inl rfl)))⟩
def rgetS (S : DS) (i : Int) : List UInt8 × Int := if S.off then ([], 8) else if i < 0 ∨ (S.n : Int) ≤ i then ([], 7) else (nowS S i.toNat, 0)
theorem rget_ok (h : RefAt w B d gl go CL CO cl co lf ov S) (i : Int) :
    Ret Try.prog 17 [ptr d, .int .i64 i] w fun v w' => v = .tuple #[.string (str (rgetS S i).1), .int .i64 (rgetS S i).2] ∧ Mods No w w' := by
  cases ho : S.off
  · have hcO := h.cOff
    rw [ho] at hcO
    by_cases h0 : i < 0
    · have hr : rgetS S i = ([], 7) := by simp [rgetS, ho, h0]
      rw [hr]
      refine Ret.enter Try.func17 rfl Try.ntmps17 rfl ?_
      simp only [argEnv, Nat.reduceAdd]
      refine E_seqR ?_
      refine EL_val (R_assign rfl) rfl rfl rfl ?_
      refine EL_val (R_assign rfl) rfl rfl rfl ?_
      refine EL_nil ?_
      refine E_seq ?_
      refine E_seqR ?_
      refine EL_val (R_move rfl) rfl rfl rfl ?_
      refine EL_val (R_nilCheck rfl) rfl rfl rfl ?_
      refine EL_val (R_fieldAddr rfl K.fT52_3) rfl rfl rfl ?_
      refine EL_val (R_load rfl K.ag4 (hcO)) rfl rfl rfl ?_
      refine EL_nil ?_
      refine E_cond_f rfl ?_
      refine E_skip ?_
      refine thenQ_n ?_
      refine E_seq ?_
      refine E_seqR ?_
      refine EL_val (R_move rfl) rfl rfl rfl ?_
      first | refine EL_val (R_lss_t rfl rfl (by omega)) rfl rfl rfl ?_ | refine EL_val (R_lss_f rfl rfl (by omega)) rfl rfl rfl ?_
      refine EL_val (R_move rfl) rfl rfl rfl ?_
      refine EL_not rfl rfl rfl ?_
      refine EL_not rfl rfl rfl ?_
      refine EL_not rfl rfl rfl ?_
      refine EL_not rfl rfl rfl ?_
      refine EL_not rfl rfl rfl ?_
      refine EL_not rfl rfl rfl ?_
      refine EL_not rfl rfl rfl ?_
      first | refine EL_val (R_pick_t rfl rfl) rfl rfl rfl ?_ | refine EL_val (R_pick_f rfl rfl) rfl rfl rfl ?_
      refine EL_nil ?_
      refine E_cond_t rfl ?_
      refine E_seqR ?_
      refine EL_val (R_assign rfl) rfl rfl rfl ?_
      refine EL_val (R_assign rfl) rfl rfl rfl ?_
      refine EL_nil ?_
      refine E_ret ?_
      refine thenQ_r ?_
      refine ret2 (.inr rfl) rfl rfl rfl ?_
      exact ⟨rfl, Mods.refl _ _⟩
    · by_cases h1 : (S.n : Int) ≤ i
      · have hr : rgetS S i = ([], 7) := by simp [rgetS, ho, h1]
        rw [hr]
        refine Ret.enter Try.func17 rfl Try.ntmps17 rfl ?_
        simp only [argEnv, Nat.reduceAdd]
        refine E_seqR ?_
        refine EL_val (R_assign rfl) rfl rfl rfl ?_
        refine EL_val (R_assign rfl) rfl rfl rfl ?_
        refine EL_nil ?_
        refine E_seq ?_
        refine E_seqR ?_
        refine EL_val (R_move rfl) rfl rfl rfl ?_
        refine EL_val (R_nilCheck rfl) rfl rfl rfl ?_
        refine EL_val (R_fieldAddr rfl K.fT52_3) rfl rfl rfl ?_
        refine EL_val (R_load rfl K.ag4 (hcO)) rfl rfl rfl ?_
        refine EL_nil ?_
        refine E_cond_f rfl ?_
        refine E_skip ?_
        refine thenQ_n ?_
        refine E_seq ?_
        refine E_seqR ?_
        refine EL_val (R_move rfl) rfl rfl rfl ?_
        first | refine EL_val (R_lss_t rfl rfl (by omega)) rfl rfl rfl ?_ | refine EL_val (R_lss_f rfl rfl (by omega)) rfl rfl rfl ?_
        refine EL_val (R_move rfl) rfl rfl rfl ?_
        first | refine EL_val (R_move rfl) rfl rfl rfl ?_ | refine EL_not rfl rfl rfl ?_
        first | refine EL_val (R_move rfl) rfl rfl rfl ?_ | refine EL_not rfl rfl rfl ?_
        first | refine EL_val (R_nilCheck rfl) rfl rfl rfl ?_ | refine EL_not rfl rfl rfl ?_
        first | refine EL_val (R_fieldAddr rfl K.fT52_0) rfl rfl rfl ?_ | refine EL_not rfl rfl rfl ?_
        refine EL_val (R_load rfl K.ag31 (h.cLast)) rfl rfl rfl ?_
        first | refine EL_val (R_lenSlice rfl Try.underlying31) rfl rfl rfl ?_ | refine EL_not rfl rfl rfl ?_
        first | refine EL_val (R_geq_t rfl rfl (by omega)) rfl rfl rfl ?_ | refine EL_val (R_geq_f rfl rfl (by omega)) rfl rfl rfl ?_ | refine EL_not rfl rfl rfl ?_
        first | refine EL_val (R_pick_t rfl rfl) rfl rfl rfl ?_ | refine EL_val (R_pick_f rfl rfl) rfl rfl rfl ?_
        refine EL_nil ?_
        refine E_cond_t rfl ?_
        refine E_seqR ?_
        refine EL_val (R_assign rfl) rfl rfl rfl ?_
        refine EL_val (R_assign rfl) rfl rfl rfl ?_
        refine EL_nil ?_
        refine E_ret ?_
        refine thenQ_r ?_
        refine ret2 (.inr rfl) rfl rfl rfl ?_
        exact ⟨rfl, Mods.refl _ _⟩
      · obtain ⟨m, rfl⟩ : ∃ m : Nat, i = m := ⟨i.toNat, by omega⟩
        have hm : m < S.n := by omega
        have hr : rgetS S m = (nowS S m, 0) := by
          simp only [rgetS, ho, Bool.false_eq_true, if_false, if_neg (show ¬ ((m : Int) < 0 ∨ (S.n : Int) ≤ m) by omega), Int.toNat_natCast]
        rw [hr]
        obtain ⟨Ao, ca, hov, hfo⟩ := h.form hm
        have hrow := h.cRow hm
        rw [hov] at hrow
        have hroom := h.room hm
        by_cases hlen : 0 < (S.opn m).length
        · obtain ⟨o, cur, rfl, hob, ht⟩ := hfo hlen
          have hx := str_cell hob ht (m := (S.opn m).length - 1) (by omega)
          have hnow : nowS S m = (S.opn m)[(S.opn m).length - 1] := by
            simp [nowS, List.getLast?_eq_getElem?, List.getElem?_eq_getElem (show (S.opn m).length - 1 < (S.opn m).length by omega)]
          rw [← hnow] at hx
          refine Ret.enter Try.func17 rfl Try.ntmps17 rfl ?_
          simp only [argEnv, Nat.reduceAdd]
          refine E_seqR ?_
          refine EL_val (R_assign rfl) rfl rfl rfl ?_
          refine EL_val (R_assign rfl) rfl rfl rfl ?_
          refine EL_nil ?_
          refine E_seq ?_
          refine E_seqR ?_
          refine EL_val (R_move rfl) rfl rfl rfl ?_
          refine EL_val (R_nilCheck rfl) rfl rfl rfl ?_
          refine EL_val (R_fieldAddr rfl K.fT52_3) rfl rfl rfl ?_
          refine EL_val (R_load rfl K.ag4 (hcO)) rfl rfl rfl ?_
          refine EL_nil ?_
          refine E_cond_f rfl ?_
          refine E_skip ?_
          refine thenQ_n ?_
          refine E_seq ?_
          refine E_seqR ?_
          refine EL_val (R_move rfl) rfl rfl rfl ?_
          first | refine EL_val (R_lss_t rfl rfl (by omega)) rfl rfl rfl ?_ | refine EL_val (R_lss_f rfl rfl (by omega)) rfl rfl rfl ?_
          refine EL_val (R_move rfl) rfl rfl rfl ?_
          first | refine EL_val (R_move rfl) rfl rfl rfl ?_ | refine EL_not rfl rfl rfl ?_
          first | refine EL_val (R_move rfl) rfl rfl rfl ?_ | refine EL_not rfl rfl rfl ?_
          first | refine EL_val (R_nilCheck rfl) rfl rfl rfl ?_ | refine EL_not rfl rfl rfl ?_
          first | refine EL_val (R_fieldAddr rfl K.fT52_0) rfl rfl rfl ?_ | refine EL_not rfl rfl rfl ?_
          refine EL_val (R_load rfl K.ag31 (h.cLast)) rfl rfl rfl ?_
          first | refine EL_val (R_lenSlice rfl Try.underlying31) rfl rfl rfl ?_ | refine EL_not rfl rfl rfl ?_
          first | refine EL_val (R_geq_t rfl rfl (by omega)) rfl rfl rfl ?_ | refine EL_val (R_geq_f rfl rfl (by omega)) rfl rfl rfl ?_ | refine EL_not rfl rfl rfl ?_
          first | refine EL_val (R_pick_t rfl rfl) rfl rfl rfl ?_ | refine EL_val (R_pick_f rfl rfl) rfl rfl rfl ?_
          refine EL_nil ?_
          refine E_cond_f rfl ?_
          refine E_skip ?_
          refine thenQ_n ?_
          refine E_seq ?_
          refine E_seqR ?_
          refine EL_val (R_move rfl) rfl rfl rfl ?_
          refine EL_val (R_nilCheck rfl) rfl rfl rfl ?_
          refine EL_val (R_fieldAddr rfl K.fT52_1) rfl rfl rfl ?_
          refine EL_val (R_load rfl K.ag30 (h.cOpen)) rfl rfl rfl ?_
          refine EL_val (R_move rfl) rfl rfl rfl ?_
          refine EL_val (R_indexAddr rfl rfl Try.underlying30 K.sz31 (m := m) rfl hm) rfl rfl rfl ?_
          refine EL_val (R_load rfl K.ag31 (hrow)) rfl rfl rfl ?_
          refine EL_val (R_lenSlice rfl Try.underlying31) rfl rfl rfl ?_
          first | refine EL_val (R_gtr_t rfl rfl (by omega)) rfl rfl rfl ?_ | refine EL_val (R_gtr_f rfl rfl (by omega)) rfl rfl rfl ?_
          refine EL_nil ?_
          refine E_cond_t rfl ?_
          refine E_seqD (fun w' => [(1000, fun w'' => w'' = w')]) 20 K.mix rfl ?_
          intro w2 hm2 hh2
          (have h2 := h.no hm2)
          refine EA_pure 0 rfl (fun _ => R_move rfl) (by kernel_rfl) rfl rfl rfl ?_
          refine EA_pure 1 rfl (fun _ => R_nilCheck rfl) (by kernel_rfl) rfl rfl rfl ?_
          refine EA_pure 2 rfl (fun _ => R_fieldAddr rfl K.fT52_1) (by kernel_rfl) rfl rfl rfl ?_
          refine EA_still 3 [1000] rfl (R_load rfl K.ag30 (h2.cOpen)) rfl (by kernel_rfl) (by kernel_rfl) rfl rfl rfl ?_
          refine EA_pure 4 rfl (fun _ => R_move rfl) (by kernel_rfl) rfl rfl rfl ?_
          refine EA_pure 5 rfl (fun _ => R_indexAddr rfl rfl Try.underlying30 K.sz31 (m := m) rfl hm) (by kernel_rfl) rfl rfl rfl ?_
          refine EA_still 6 [1000] rfl (R_load rfl K.ag31 (hm2.cell hrow id)) rfl (by kernel_rfl) (by kernel_rfl) rfl rfl rfl ?_
          refine EA_pure 7 rfl (fun _ => R_move rfl) (by kernel_rfl) rfl rfl rfl ?_
          refine EA_pure 8 rfl (fun _ => R_nilCheck rfl) (by kernel_rfl) rfl rfl rfl ?_
          refine EA_pure 9 rfl (fun _ => R_fieldAddr rfl K.fT52_1) (by kernel_rfl) rfl rfl rfl ?_
          refine EA_still 10 [1000] rfl (R_load rfl K.ag30 (h2.cOpen)) rfl (by kernel_rfl) (by kernel_rfl) rfl rfl rfl ?_
          refine EA_pure 11 rfl (fun _ => R_move rfl) (by kernel_rfl) rfl rfl rfl ?_
          refine EA_pure 12 rfl (fun _ => R_indexAddr rfl rfl Try.underlying30 K.sz31 (m := m) rfl hm) (by kernel_rfl) rfl rfl rfl ?_
          refine EA_still 13 [1000] rfl (R_load rfl K.ag31 (hm2.cell hrow id)) rfl (by kernel_rfl) (by kernel_rfl) rfl rfl rfl ?_
          refine EA_pure 14 rfl (fun _ => R_lenSlice rfl Try.underlying31) (by kernel_rfl) rfl rfl rfl ?_
          refine EA_pure 15 rfl (fun _ => R_subE ((((S.opn m).length - 1 : Nat) : Int)) rfl rfl (by omega) (by omega) (by omega)) (by kernel_rfl) rfl rfl rfl ?_
          refine EA_pure 16 rfl (fun _ => R_indexAddr rfl rfl Try.underlying31 K.sz9 (m := (S.opn m).length - 1) rfl (by omega)) (by kernel_rfl) rfl rfl rfl ?_
          refine EA_still 17 [1000] rfl (R_load rfl K.ag9 (hm2.cell hx id)) rfl (by kernel_rfl) (by kernel_rfl) rfl rfl rfl ?_
          refine EA_pure 18 rfl (fun _ => R_assign rfl) (by kernel_rfl) rfl rfl rfl ?_
          refine EA_pure 19 rfl (fun _ => R_assign rfl) (by kernel_rfl) rfl rfl rfl ?_
          refine EA_done (by kernel_rfl) ⟨fun _ => rfl, trivial⟩ ?_
          refine E_ret ?_
          refine thenQ_r ?_
          refine ret2 (.inr rfl) rfl rfl rfl ?_
          exact ⟨rfl, hm2⟩
        · have hnow : nowS S m = S.last m := by
            have : S.opn m = [] := List.eq_nil_of_length_eq_zero (by omega)
            simp [nowS, this]
          refine Ret.enter Try.func17 rfl Try.ntmps17 rfl ?_
          simp only [argEnv, Nat.reduceAdd]
          refine E_seqR ?_
          refine EL_val (R_assign rfl) rfl rfl rfl ?_
          refine EL_val (R_assign rfl) rfl rfl rfl ?_
          refine EL_nil ?_
          refine E_seq ?_
          refine E_seqR ?_
          refine EL_val (R_move rfl) rfl rfl rfl ?_
          refine EL_val (R_nilCheck rfl) rfl rfl rfl ?_
          refine EL_val (R_fieldAddr rfl K.fT52_3) rfl rfl rfl ?_
          refine EL_val (R_load rfl K.ag4 (hcO)) rfl rfl rfl ?_
          refine EL_nil ?_
          refine E_cond_f rfl ?_
          refine E_skip ?_
          refine thenQ_n ?_
          refine E_seq ?_
          refine E_seqR ?_
          refine EL_val (R_move rfl) rfl rfl rfl ?_
          first | refine EL_val (R_lss_t rfl rfl (by omega)) rfl rfl rfl ?_ | refine EL_val (R_lss_f rfl rfl (by omega)) rfl rfl rfl ?_
          refine EL_val (R_move rfl) rfl rfl rfl ?_
          first | refine EL_val (R_move rfl) rfl rfl rfl ?_ | refine EL_not rfl rfl rfl ?_
          first | refine EL_val (R_move rfl) rfl rfl rfl ?_ | refine EL_not rfl rfl rfl ?_
          first | refine EL_val (R_nilCheck rfl) rfl rfl rfl ?_ | refine EL_not rfl rfl rfl ?_
          first | refine EL_val (R_fieldAddr rfl K.fT52_0) rfl rfl rfl ?_ | refine EL_not rfl rfl rfl ?_
          refine EL_val (R_load rfl K.ag31 (h.cLast)) rfl rfl rfl ?_
          first | refine EL_val (R_lenSlice rfl Try.underlying31) rfl rfl rfl ?_ | refine EL_not rfl rfl rfl ?_
          first | refine EL_val (R_geq_t rfl rfl (by omega)) rfl rfl rfl ?_ | refine EL_val (R_geq_f rfl rfl (by omega)) rfl rfl rfl ?_ | refine EL_not rfl rfl rfl ?_
          first | refine EL_val (R_pick_t rfl rfl) rfl rfl rfl ?_ | refine EL_val (R_pick_f rfl rfl) rfl rfl rfl ?_
          refine EL_nil ?_
          refine E_cond_f rfl ?_
          refine E_skip ?_
          refine thenQ_n ?_
          refine E_seq ?_
          refine E_seqR ?_
          refine EL_val (R_move rfl) rfl rfl rfl ?_
          refine EL_val (R_nilCheck rfl) rfl rfl rfl ?_
          refine EL_val (R_fieldAddr rfl K.fT52_1) rfl rfl rfl ?_
          refine EL_val (R_load rfl K.ag30 (h.cOpen)) rfl rfl rfl ?_
          refine EL_val (R_move rfl) rfl rfl rfl ?_
          refine EL_val (R_indexAddr rfl rfl Try.underlying30 K.sz31 (m := m) rfl hm) rfl rfl rfl ?_
          refine EL_val (R_load rfl K.ag31 (hrow)) rfl rfl rfl ?_
          refine EL_val (R_lenSlice rfl Try.underlying31) rfl rfl rfl ?_
          first | refine EL_val (R_gtr_t rfl rfl (by omega)) rfl rfl rfl ?_ | refine EL_val (R_gtr_f rfl rfl (by omega)) rfl rfl rfl ?_
          refine EL_nil ?_
          refine E_cond_f rfl ?_
          refine E_skip ?_
          refine thenQ_n ?_
          refine E_seqR ?_
          refine EL_val (R_move rfl) rfl rfl rfl ?_
          refine EL_val (R_nilCheck rfl) rfl rfl rfl ?_
          refine EL_val (R_fieldAddr rfl K.fT52_0) rfl rfl rfl ?_
          refine EL_val (R_load rfl K.ag31 (h.cLast)) rfl rfl rfl ?_
          refine EL_val (R_move rfl) rfl rfl rfl ?_
          refine EL_val (R_indexAddr rfl rfl Try.underlying31 K.sz9 (m := m) rfl hm) rfl rfl rfl ?_
          refine EL_val (R_load rfl K.ag9 (h.cStr hm)) rfl rfl rfl ?_
          refine EL_val (R_assign rfl) rfl rfl rfl ?_
          refine EL_val (R_assign rfl) rfl rfl rfl ?_
          refine EL_nil ?_
          refine E_ret ?_
          refine ret2 (.inr rfl) rfl rfl rfl ?_
          rw [hnow]
          exact ⟨rfl, Mods.refl _ _⟩
  · have hcO := h.cOff
    rw [ho] at hcO
    have hr : rgetS S i = ([], 8) := by simp [rgetS, ho]
    rw [hr]
    refine Ret.enter Try.func17 rfl Try.ntmps17 rfl ?_
    simp only [argEnv, Nat.reduceAdd]
    refine E_seqR ?_
    refine EL_val (R_assign rfl) rfl rfl rfl ?_
    refine EL_val (R_assign rfl) rfl rfl rfl ?_
    refine EL_nil ?_
    refine E_seq ?_
    refine E_seqR ?_
    refine EL_val (R_move rfl) rfl rfl rfl ?_
    refine EL_val (R_nilCheck rfl) rfl rfl rfl ?_
    refine EL_val (R_fieldAddr rfl K.fT52_3) rfl rfl rfl ?_
    refine EL_val (R_load rfl K.ag4 (hcO)) rfl rfl rfl ?_
    refine EL_nil ?_
    refine E_cond_t rfl ?_
    refine E_seqR ?_
    refine EL_val (R_assign rfl) rfl rfl rfl ?_
    refine EL_val (R_assign rfl) rfl rfl rfl ?_
    refine EL_nil ?_
    refine E_ret ?_
    refine thenQ_r ?_
    refine ret2 (.inr rfl) rfl rfl rfl ?_
    exact ⟨rfl, Mods.refl _ _⟩
end
theorem rnew_ok {w : World} {n B : Nat} (h1 : 1 ≤ n) (h2 : n ≤ 480) (hB : B ≤ w.heap.size) :
    Ret Try.prog 15 [.int .i64 (n : Int)] w fun v w' => ∃ d, v = ptr d ∧ Ref w' B d (newS n) ∧ Mods No w w' := by
  refine Ret.enter Try.func15 rfl Try.ntmps15 rfl ?_
  simp only [argEnv, Nat.reduceAdd]
  refine E_seqR ?_
  refine EL_val (R_assign rfl) rfl rfl rfl ?_
  refine EL_nil ?_
  refine E_seqR ?_
  refine EL_val (R_build (cells := #[.slice none 0 0, .slice none 0 0, .int .i64 (-1), .bool false]) K.zr52 K.pl52 rfl rfl) rfl rfl rfl ?_
  refine EL_step rfl ?_
  refine EO_box rfl rfl ?_
  intro w1 hn1
  refine EL_val (R_assign rfl) rfl rfl rfl ?_
  refine EL_nil ?_
  refine E_seq ?_
  refine E_seqR ?_
  refine EL_val (R_assign rfl) rfl rfl rfl ?_
  refine EL_nil ?_
  refine E_block ?_
  obtain ⟨d, hd⟩ : ∃ d, d = w.heap.size := ⟨_, rfl⟩
  rw [← hd]
  refine E_loop (fun m' e' w' => ∃ i vL vO, i ≤ n ∧ m' = n - i ∧ e' = [(0, .int .i64 (n : Int)), (3, ptr d), (4, .int .i64 ((i : Nat) : Int))] ∧ Bk w' d #[vL, vO, .int .i64 (-1), .bool false] 52 ∧ Mods No w w' ∧ d < w'.heap.size ∧
      w'.ownsRow w.heap.size 9 1 vL i (strW (List.replicate i zeros64)) ∧ w'.ownsRow w.heap.size 31 1 vO i (List.replicate i (.slice none 0 0))) n
    [(0, .int .i64 (n : Int)), (3, ptr d), (4, .int .i64 ((0 : Nat) : Int))] ⟨rfl, rfl, rfl, trivial⟩ ⟨0, .slice none 0 0, .slice none 0 0, by omega, by omega, rfl, by rw [hd]; exact hn1.bk, hn1.mods, by have := hn1.size; omega, World.ownsRow_nil _ _ _ _, World.ownsRow_nil _ _ _ _⟩ ?_
  rintro m' e w2 ⟨i, vL, vO, hi, rfl, rfl, hbd, hm2, hlt, hoL, hoO⟩
  by_cases hin : i < n
  · obtain ⟨AL, cL, rfl⟩ := own_slice hoL
    obtain ⟨AO, cO, rfl⟩ := own_slice hoO
    refine E_seq ?_
    refine E_seqR ?_
    refine EL_val (R_move rfl) rfl rfl rfl ?_
    refine EL_val (R_move rfl) rfl rfl rfl ?_
    first | refine EL_val (R_lss_t rfl rfl (by omega)) rfl rfl rfl ?_ | refine EL_val (R_lss_f rfl rfl (by omega)) rfl rfl rfl ?_
    refine EL_nil ?_
    refine E_cond_t rfl ?_
    refine E_skip ?_
    refine thenQ_n ?_
    refine E_seq ?_
    refine E_block ?_
    refine E_seqD (fun _ => [(8, fun W => W.cell? ⟨d, 0 + 0, none⟩ = some (.slice AL i cL))]) 12 K.mix rfl ?_
    intro w3 hm3 hh3
    (have hbd3 := hm3.bk' hbd)
    refine EA_pure 0 rfl (fun _ => R_move rfl) (by kernel_rfl) rfl rfl rfl ?_
    refine EA_pure 1 rfl (fun _ => R_move rfl) (by kernel_rfl) rfl rfl rfl ?_
    refine EA_pure 2 rfl (fun _ => R_nilCheck rfl) (by kernel_rfl) rfl rfl rfl ?_
    refine EA_pure 3 rfl (fun _ => R_fieldAddr rfl K.fT52_0) (by kernel_rfl) rfl rfl rfl ?_
    refine EA_load 4 0 [8, 9, 10, 11] rfl rfl K.ag31 rfl (by kernel_rfl) (by kernel_rfl) rfl rfl ?_
    refine EA_one 5 rfl (by kernel_rfl) rfl ⟨fun _ => hbd3.cell rfl, trivial⟩ ?_
    refine EO_makeSlice 64 64 rfl rfl Try.underlying23 K.zr5 K.sz5 K.by5 (by first | rfl | omega) (by first | rfl | omega) (by omega) (by omega) (by omega) rfl ?_
    intro w4 hn4
    (have hb4 : Bk w4 w3.heap.size (bv zeros64) 5 := mk64 ▸ hn4.bk)
    refine EA_one 6 rfl (by kernel_rfl) rfl ⟨fun _ => hn4.mods.bk' hbd3 |>.cell rfl, trivial⟩ ?_
    refine EO_val (R_bytesStr rfl (src_bv hb4) rfl Try.underlying23 Try.underlying5 Try.underlying9) rfl rfl ?_
    skip
    refine EA_one 7 rfl (by kernel_rfl) rfl ⟨fun _ => (hn4.mods.bk' hbd3).cell rfl, trivial⟩ ?_
    refine EO_buildSlice Try.underlying31 K.zr9 K.sz9 rfl rfl rfl (fill_whole rfl (by rw [size_madeCells])) rfl ?_
    intro w5 hn5
    (have hs3 := hm3.size; have hs4 := hn4.size; have hs5 := hn5.size; have hs2 := hm2.size; have hm25 := (hm3.trans hn4.mods).trans hn5.mods; have hoL5 := hm25.own hoL (fun _ _ h => h); have hoO5 := hm25.own hoO (fun _ _ h => h); have hbd5 := hm25.bk' hbd)
    refine EA_one 8 rfl (by kernel_rfl) rfl ⟨fun _ => hbd5.cell rfl, trivial⟩ ?_
    refine EO_append rfl rfl Try.underlying31 K.sz9 K.zr9 K.by9 rfl (by decide) hoL5 (Src.bk hn5.bk 1 1 [.string (str zeros64)] rfl (fun q u hq => by rw [Nat.zero_add]; show (#[.string (str zeros64)] : Array Value)[q]? = some u; simpa using hq)) (by simp [Value.oneCell']) (by simp only [maxLen]; omega) (by omega) (by omega) rfl ?_
    intro v6 w6 ho6 hm6 hat6
    (obtain ⟨g6, cap6, cur6, rfl, hb6, hbk6, _⟩ := own_form ho6 (by omega); have hbd6 := hm6.bk hbd5 (own_ne hoL5 hbd5 (by decide)); have hoO6 := hm6.own hoO5 (fun k hk hk' => by obtain ⟨_, cur, hc⟩ := own_bk hoO5 hk; exact own_ne hoL5 hc (by decide) hk'))
    refine EA_pure 9 rfl (fun _ => R_nilCheck rfl) (by kernel_rfl) rfl rfl rfl ?_
    refine EA_pure 10 rfl (fun _ => R_fieldAddr rfl K.fT52_0) (by kernel_rfl) rfl rfl rfl ?_
    refine EA_one 11 rfl (by kernel_rfl) rfl (Holds.done (by kernel_rfl)) ?_
    refine EO_store1 rfl rfl K.sz31 rfl hbd6 (by simp) ?_
    intro w7 hu7
    refine EA_done (by kernel_rfl) (Holds.done (by kernel_rfl)) ?_
    refine E_region ?_
    refine EL_val (R_move rfl) rfl rfl rfl ?_
    refine EL_val (R_move rfl) rfl rfl rfl ?_
    refine EL_val (R_nilCheck rfl) rfl rfl rfl ?_
    refine EL_val (R_fieldAddr rfl K.fT52_1) rfl rfl rfl ?_
    refine EL_val (R_load rfl K.ag30 (hu7.bk.cell rfl)) rfl rfl rfl ?_
    refine EL_step rfl ?_
    refine EO_buildSlice Try.underlying30 K.zr31 K.sz31 rfl rfl rfl (fill_whole rfl (by rw [size_madeCells])) rfl ?_
    intro w8 hn8
    refine EL_step rfl ?_
    refine EO_append rfl rfl Try.underlying30 K.sz31 K.zr31 K.by31 rfl (by decide) (hn8.mods.own (hu7.mods.own hoO6 (fun k hk hk' => by subst hk'; exact own_ne hoO6 hbd6 (by decide) hk.symm)) (fun _ _ h => h)) (Src.bk hn8.bk 1 1 [.slice none 0 0] rfl (fun q u hq => by rw [Nat.zero_add]; show (#[.slice none 0 0] : Array Value)[q]? = some u; simpa using hq)) (by simp [Value.oneCell']) (by simp only [maxLen]; omega) (by omega) (by have := hm6.size; have := hu7.size; have := hn8.size; omega) rfl ?_
    intro v9 w9 ho9 hm9 hat9
    (obtain ⟨g9, cap9, cur9, rfl, hb9, hbk9, _⟩ := own_form ho9 (by omega); have hoO8 := (hn8.mods.own (hu7.mods.own hoO6 (fun k hk hk' => by subst hk'; exact own_ne hoO6 hbd6 (by decide) hk.symm)) (fun _ _ h => h)); have hbd9 := hm9.bk (hn8.mods.bk' hu7.bk) (own_ne hoO8 (hn8.mods.bk' hu7.bk) (by decide)))
    refine EL_val (R_nilCheck rfl) rfl rfl rfl ?_
    refine EL_val (R_fieldAddr rfl K.fT52_1) rfl rfl rfl ?_
    refine EL_step rfl ?_
    refine EO_store1 rfl rfl K.sz30 rfl hbd9 (by simp) ?_
    intro w10 hu10
    refine EL_nil ?_
    refine inB_n ?_
    refine thenQ_n ?_
    refine E_region ?_
    refine EL_val (R_move rfl) rfl rfl rfl ?_
    first | refine EL_val (R_inc rfl (by omega)) rfl rfl rfl ?_ | refine EL_val (R_add_in rfl rfl (by omega) (by omega)) rfl rfl rfl ?_
    refine EL_val (R_assign rfl) rfl rfl rfl ?_
    refine EL_nil ?_
    refine thenQ_n ?_
    have hs6 := hm6.size
    have hs7 := hu7.size
    have hs8 := hn8.size
    have hs9 := hm9.size
    have hs10 := hu10.size
    have hoL7 := hu7.mods.own ho6 (fun k hk hk' => by subst hk'; exact own_ne ho6 hbd6 (by decide) hk.symm)
    have hoL8 := hn8.mods.own hoL7 (fun _ _ h => h)
    have hoL9 := hm9.own hoL8 (fun k hk hk' => by obtain ⟨_, cur, hc⟩ := own_bk hoL8 hk; exact own_ne hoO8 hc (by decide) hk')
    have hoL10 := hu10.mods.own hoL9 (fun k hk hk' => by subst hk'; exact own_ne hoL9 hbd9 (by decide) hk.symm)
    have hoO10 := hu10.mods.own ho9 (fun k hk hk' => by subst hk'; exact own_ne ho9 hbd9 (by decide) hk.symm)
    have hB6 : ∀ k, some k = (Value.slice AL i cL).ownBlock → w.heap.size ≤ k := fun k hk => (own_bk hoL5 hk.symm).1
    have hB9 : ∀ k, some k = (Value.slice AO i cO).ownBlock → w.heap.size ≤ k := fun k hk => (own_bk hoO8 hk.symm).1
    have hG : Mods (fun k => w.heap.size ≤ k) w5 w10 :=
      (((hm6.mono (S' := fun k => w.heap.size ≤ k) fun k _ hk => hB6 k hk).trans (hu7.mods.mono (S' := fun k => w.heap.size ≤ k) fun k _ hk => by omega)).trans (hn8.mods.no.trans (hm9.mono (S' := fun k => w.heap.size ≤ k) fun k _ hk => hB9 k hk))).trans (hu10.mods.mono (S' := fun k => w.heap.size ≤ k) fun k _ hk => by omega)
    have hm10 : Mods No w w10 := (hm2.trans hm25).trans' hG fun k hk hk' => by omega
    refine ⟨rfl, n - (i + 1), [(0, .int .i64 (n : Int)), (3, ptr d), (4, .int .i64 ((i + 1 : Nat) : Int))], by omega, ⟨rfl, rfl, rfl, trivial⟩, i + 1, _, _, by omega, rfl, rfl, hu10.bk, hm10, by omega, ?_, ?_⟩
    · rw [show strW (List.replicate (i + 1) zeros64) = strW (List.replicate i zeros64) ++ [.string (str zeros64)] from by simp [strW, List.replicate_succ']]
      exact hoL10
    · rw [List.replicate_succ']
      exact hoO10
  · have hi' : i = n := by omega
    subst hi'
    refine E_seq ?_
    refine E_seqR ?_
    refine EL_val (R_move rfl) rfl rfl rfl ?_
    refine EL_val (R_move rfl) rfl rfl rfl ?_
    first | refine EL_val (R_lss_t rfl rfl (by omega)) rfl rfl rfl ?_ | refine EL_val (R_lss_f rfl rfl (by omega)) rfl rfl rfl ?_
    refine EL_nil ?_
    refine E_cond_f rfl ?_
    refine E_exit ?_
    refine thenQ_e ?_
    refine thenQ_e ?_
    refine inB_eq rfl ?_
    refine thenQ_n ?_
    refine E_seqR ?_
    refine EL_val (R_move rfl) rfl rfl rfl ?_
    refine EL_val (R_assign rfl) rfl rfl rfl ?_
    refine EL_nil ?_
    refine E_ret ?_
    refine ret1 (.inr rfl) rfl rfl ?_
    obtain ⟨gl, cl, CL, rfl, hBl, hbl, hle, hcm, hsz, htL⟩ := own_form hoL (by omega)
    obtain ⟨go, co, CO, rfl, hBo, hbo, hleO, hcmO, hszO, htO⟩ := own_form hoO (by omega)
    refine ⟨d, rfl, ⟨gl, go, CL, CO, cl, co, -1, fun _ => .slice none 0 0, hbd, hbl, hbo, by omega, by omega, by omega, h2, by omega, by omega, rfl, fun j hj => ?_, fun j hj => ?_, fun j hj => World.ownsRow_nil _ _ _ _, fun j hj => by simp [Value.ownBlock], fun j k b _ _ _ hb => by cases hb⟩, hm2⟩
    · have hj' : j < i := hj
      have h1 : (strW (List.replicate i zeros64))[j]? = some (.string (str zeros64)) := by simp [strW, hj']
      rw [← htL, List.getElem?_take, if_pos (by omega)] at h1
      simpa [newS] using h1
    · have hj' : j < i := hj
      have h1 : (List.replicate i (Value.slice none 0 0))[j]? = some (.slice none 0 0) := by simp [hj']
      rw [← htO, List.getElem?_take, if_pos (by omega)] at h1
      simpa using h1
end Go.Proofs.Ytphnhhcefoghpaa
