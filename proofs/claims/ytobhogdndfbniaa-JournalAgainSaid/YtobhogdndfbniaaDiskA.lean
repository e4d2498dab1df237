/- The disk's small functions. -/
import Derived.Test.YtobhogdndfbniaaDisk
set_option linter.unusedVariables false
set_option linter.unusedSimpArgs false
set_option maxRecDepth 100000
namespace Go.Proofs.Ytobhogdndfbniaa
open Go.EW Go.RowKit

def readyS (S : DS) : Int := if S.off then 8 else 0
theorem ready_ok {w : World} {B d g : Nat} {C : Array Value} {ov : Nat → Value} {S : DS} (h : DiskAt w B d g C ov S) :
    Ret Try.prog 30 [ptr d] w fun v w' => v = .int .i64 (readyS S) ∧ w = w' := by
  cases ho : S.off
  · have hc : w.cell? ⟨d, 0 + 0 + 0, none⟩ = some (.bool false) := by rw [h.hd.cell rfl, ho]; rfl
    refine Ret.enter Try.func30 rfl Try.ntmps30 rfl ?_
    simp only [argEnv, Nat.reduceAdd]
    refine E_seqR ?_
    refine EL_val (R_assign rfl) rfl rfl rfl ?_
    refine EL_nil ?_
    refine E_seq ?_
    refine E_block ?_
    refine E_seqR ?_
    refine EL_val (R_move rfl) rfl rfl rfl ?_
    refine EL_val (R_eqlPtrNil rfl Try.underlying29) rfl rfl rfl ?_
    refine EL_val (R_assign rfl) rfl rfl rfl ?_
    refine EL_nil ?_
    refine E_cond_f rfl ?_
    refine E_seqR ?_
    refine EL_val (R_move rfl) rfl rfl rfl ?_
    refine EL_val (R_nilCheck rfl) rfl rfl rfl ?_
    refine EL_val (R_fieldAddr rfl K.fT70_0) rfl rfl rfl ?_
    refine EL_val (R_fieldAddr rfl K.fT67_0) rfl rfl rfl ?_
    refine EL_val (R_load rfl K.ag4 (hc)) rfl rfl rfl ?_
    refine EL_val (R_assign rfl) rfl rfl rfl ?_
    refine EL_nil ?_
    refine E_cond_f rfl ?_
    refine E_skip ?_
    refine inB_n ?_
    refine thenQ_n ?_
    refine E_seqR ?_
    refine EL_val (R_assign rfl) rfl rfl rfl ?_
    refine EL_nil ?_
    refine E_ret ?_
    refine ret1 (.inr rfl) rfl rfl ?_
    exact ⟨by simp [readyS, ho], rfl⟩
  · have hc : w.cell? ⟨d, 0 + 0 + 0, none⟩ = some (.bool true) := by rw [h.hd.cell rfl, ho]; rfl
    refine Ret.enter Try.func30 rfl Try.ntmps30 rfl ?_
    simp only [argEnv, Nat.reduceAdd]
    refine E_seqR ?_
    refine EL_val (R_assign rfl) rfl rfl rfl ?_
    refine EL_nil ?_
    refine E_seq ?_
    refine E_block ?_
    refine E_seqR ?_
    refine EL_val (R_move rfl) rfl rfl rfl ?_
    refine EL_val (R_eqlPtrNil rfl Try.underlying29) rfl rfl rfl ?_
    refine EL_val (R_assign rfl) rfl rfl rfl ?_
    refine EL_nil ?_
    refine E_cond_f rfl ?_
    refine E_seqR ?_
    refine EL_val (R_move rfl) rfl rfl rfl ?_
    refine EL_val (R_nilCheck rfl) rfl rfl rfl ?_
    refine EL_val (R_fieldAddr rfl K.fT70_0) rfl rfl rfl ?_
    refine EL_val (R_fieldAddr rfl K.fT67_0) rfl rfl rfl ?_
    refine EL_val (R_load rfl K.ag4 (hc)) rfl rfl rfl ?_
    refine EL_val (R_assign rfl) rfl rfl rfl ?_
    refine EL_nil ?_
    refine E_cond_t rfl ?_
    refine E_seqR ?_
    refine EL_val (R_assign rfl) rfl rfl rfl ?_
    refine EL_nil ?_
    refine E_ret ?_
    refine inB_r (thenQ_r ?_)
    refine ret1 (.inr rfl) rfl rfl ?_
    exact ⟨by simp [readyS, ho], rfl⟩
theorem ready_nil {w : World} : Ret Try.prog 30 [.pointer none] w fun v w' => v = .int .i64 1 ∧ w = w' := by
  refine Ret.enter Try.func30 rfl Try.ntmps30 rfl ?_
  simp only [argEnv, Nat.reduceAdd]
  refine E_seqR ?_
  refine EL_val (R_assign rfl) rfl rfl rfl ?_
  refine EL_nil ?_
  refine E_seq ?_
  refine E_block ?_
  refine E_seqR ?_
  refine EL_val (R_move rfl) rfl rfl rfl ?_
  refine EL_val (R_eqlPtrNil rfl Try.underlying29) rfl rfl rfl ?_
  refine EL_val (R_assign rfl) rfl rfl rfl ?_
  refine EL_nil ?_
  refine E_cond_t rfl ?_
  refine E_seqR ?_
  refine EL_val (R_assign rfl) rfl rfl rfl ?_
  refine EL_nil ?_
  refine E_ret ?_
  refine inB_r (thenQ_r ?_)
  refine ret1 (.inr rfl) rfl rfl ?_
  exact ⟨rfl, rfl⟩
theorem blocks_ok {w : World} {B d g : Nat} {C : Array Value} {ov : Nat → Value} {S : DS} (h : DiskAt w B d g C ov S) :
    Ret Try.prog 20 [ptr d] w fun v w' => v = .int .i64 S.n ∧ w = w' := by
  refine Ret.enter Try.func20 rfl Try.ntmps20 rfl ?_
  simp only [argEnv, Nat.reduceAdd]
  refine E_seqR ?_
  refine EL_val (R_assign rfl) rfl rfl rfl ?_
  refine EL_nil ?_
  refine E_seq ?_
  refine E_seqR ?_
  refine EL_val (R_move rfl) rfl rfl rfl ?_
  refine EL_val (R_eqlPtrNil rfl Try.underlying29) rfl rfl rfl ?_
  refine EL_nil ?_
  refine E_cond_f rfl ?_
  refine E_skip ?_
  refine thenQ_n ?_
  refine E_seqR ?_
  refine EL_val (R_move rfl) rfl rfl rfl ?_
  refine EL_val (R_nilCheck rfl) rfl rfl rfl ?_
  refine EL_val (R_fieldAddr rfl K.fT70_1) rfl rfl rfl ?_
  refine EL_val (R_load rfl K.ag68 (h.cRow)) rfl rfl rfl ?_
  refine EL_val (R_lenSlice rfl Try.underlying68) rfl rfl rfl ?_
  refine EL_val (R_assign rfl) rfl rfl rfl ?_
  refine EL_nil ?_
  refine E_ret ?_
  refine ret1 (.inr rfl) rfl rfl ?_
  exact ⟨rfl, rfl⟩
theorem blocks_nil {w : World} : Ret Try.prog 20 [.pointer none] w fun v w' => v = .int .i64 0 ∧ w = w' := by
  refine Ret.enter Try.func20 rfl Try.ntmps20 rfl ?_
  simp only [argEnv, Nat.reduceAdd]
  refine E_seqR ?_
  refine EL_val (R_assign rfl) rfl rfl rfl ?_
  refine EL_nil ?_
  refine E_seq ?_
  refine E_seqR ?_
  refine EL_val (R_move rfl) rfl rfl rfl ?_
  refine EL_val (R_eqlPtrNil rfl Try.underlying29) rfl rfl rfl ?_
  refine EL_nil ?_
  refine E_cond_t rfl ?_
  refine E_seqR ?_
  refine EL_val (R_assign rfl) rfl rfl rfl ?_
  refine EL_nil ?_
  refine E_ret ?_
  refine thenQ_r ?_
  refine ret1 (.inr rfl) rfl rfl ?_
  exact ⟨rfl, rfl⟩
def spendS (S : DS) : DS × Int := if S.left = 0 then ({ S with off := true }, 8) else if 0 < S.left then ({ S with left := S.left - 1 }, 0) else (S, 0)
theorem spend_ok {w : World} {B d g : Nat} {C : Array Value} {ov : Nat → Value} {S : DS} (h : DiskAt w B d g C ov S) :
    Ret Try.prog 31 [ptr d] w fun v w' => v = .int .i64 (spendS S).2 ∧ DiskAt w' B d g C ov (spendS S).1 ∧ DM B w w' := by
  have hl0 := h.left0
  have hl1 := h.left1
  by_cases h0 : S.left = 0
  · refine Ret.enter Try.func31 rfl Try.ntmps31 rfl ?_
    simp only [argEnv, Nat.reduceAdd]
    refine E_seqR ?_
    refine EL_val (R_assign rfl) rfl rfl rfl ?_
    refine EL_nil ?_
    refine E_seq ?_
    refine E_seqR ?_
    refine EL_val (R_move rfl) rfl rfl rfl ?_
    refine EL_val (R_nilCheck rfl) rfl rfl rfl ?_
    refine EL_val (R_fieldAddr rfl K.fT67_1) rfl rfl rfl ?_
    refine EL_val (R_load rfl K.ag3 (h.cLeft)) rfl rfl rfl ?_
    first | refine EL_val (R_eql_t rfl rfl (by omega)) rfl rfl rfl ?_ | refine EL_val (R_eql_f rfl rfl (by omega)) rfl rfl rfl ?_
    refine EL_nil ?_
    refine E_cond_t rfl ?_
    refine E_seqR ?_
    refine EL_val (R_move rfl) rfl rfl rfl ?_
    refine EL_val (R_nilCheck rfl) rfl rfl rfl ?_
    refine EL_val (R_fieldAddr rfl K.fT67_0) rfl rfl rfl ?_
    refine EL_step rfl ?_
    refine EO_store1 rfl rfl K.sz4 rfl h.hd (by simp) ?_
    intro w1 hu
    refine EL_nil ?_
    refine E_seqR ?_
    refine EL_val (R_assign rfl) rfl rfl rfl ?_
    refine EL_nil ?_
    refine E_ret ?_
    refine thenQ_r ?_
    refine ret1 (.inr rfl) rfl rfl ?_
    have hs : spendS S = ({ S with off := true }, 8) := by simp [spendS, h0]
    rw [hs]
    refine ⟨rfl, ?_, DM.upd hu h.hd h.Bd (.inl rfl)⟩
    exact h.setPower hl0 hl1 hu
  · by_cases h1 : 0 < S.left
    · refine Ret.enter Try.func31 rfl Try.ntmps31 rfl ?_
      simp only [argEnv, Nat.reduceAdd]
      refine E_seqR ?_
      refine EL_val (R_assign rfl) rfl rfl rfl ?_
      refine EL_nil ?_
      refine E_seq ?_
      refine E_seqR ?_
      refine EL_val (R_move rfl) rfl rfl rfl ?_
      refine EL_val (R_nilCheck rfl) rfl rfl rfl ?_
      refine EL_val (R_fieldAddr rfl K.fT67_1) rfl rfl rfl ?_
      refine EL_val (R_load rfl K.ag3 (h.cLeft)) rfl rfl rfl ?_
      first | refine EL_val (R_eql_t rfl rfl (by omega)) rfl rfl rfl ?_ | refine EL_val (R_eql_f rfl rfl (by omega)) rfl rfl rfl ?_
      refine EL_nil ?_
      refine E_cond_f rfl ?_
      refine E_skip ?_
      refine thenQ_n ?_
      refine E_seq ?_
      refine E_seqR ?_
      refine EL_val (R_move rfl) rfl rfl rfl ?_
      refine EL_val (R_nilCheck rfl) rfl rfl rfl ?_
      refine EL_val (R_fieldAddr rfl K.fT67_1) rfl rfl rfl ?_
      refine EL_val (R_load rfl K.ag3 (h.cLeft)) rfl rfl rfl ?_
      first | refine EL_val (R_gtr_t rfl rfl (by omega)) rfl rfl rfl ?_ | refine EL_val (R_gtr_f rfl rfl (by omega)) rfl rfl rfl ?_
      refine EL_nil ?_
      refine E_cond_t rfl ?_
      refine E_region ?_
      refine EL_val (R_move rfl) rfl rfl rfl ?_
      refine EL_val (R_nilCheck rfl) rfl rfl rfl ?_
      refine EL_val (R_fieldAddr rfl K.fT67_1) rfl rfl rfl ?_
      refine EL_val (R_load rfl K.ag3 (h.cLeft)) rfl rfl rfl ?_
      refine EL_val (R_sub_in rfl rfl (by omega) (by omega)) rfl rfl rfl ?_
      refine EL_val (R_nilCheck rfl) rfl rfl rfl ?_
      refine EL_val (R_fieldAddr rfl K.fT67_1) rfl rfl rfl ?_
      refine EL_step rfl ?_
      refine EO_store1 rfl rfl K.sz3 rfl h.hd (by simp) ?_
      intro w1 hu
      refine EL_nil ?_
      refine thenQ_n ?_
      refine E_seqR ?_
      refine EL_val (R_assign rfl) rfl rfl rfl ?_
      refine EL_nil ?_
      refine E_ret ?_
      refine ret1 (.inr rfl) rfl rfl ?_
      have hs : spendS S = ({ S with left := S.left - 1 }, 0) := by simp [spendS, h0, h1]
      rw [hs]
      exact ⟨rfl, h.setPower (by omega) (by omega) hu, DM.upd hu h.hd h.Bd (.inl rfl)⟩
    · refine Ret.enter Try.func31 rfl Try.ntmps31 rfl ?_
      simp only [argEnv, Nat.reduceAdd]
      refine E_seqR ?_
      refine EL_val (R_assign rfl) rfl rfl rfl ?_
      refine EL_nil ?_
      refine E_seq ?_
      refine E_seqR ?_
      refine EL_val (R_move rfl) rfl rfl rfl ?_
      refine EL_val (R_nilCheck rfl) rfl rfl rfl ?_
      refine EL_val (R_fieldAddr rfl K.fT67_1) rfl rfl rfl ?_
      refine EL_val (R_load rfl K.ag3 (h.cLeft)) rfl rfl rfl ?_
      first | refine EL_val (R_eql_t rfl rfl (by omega)) rfl rfl rfl ?_ | refine EL_val (R_eql_f rfl rfl (by omega)) rfl rfl rfl ?_
      refine EL_nil ?_
      refine E_cond_f rfl ?_
      refine E_skip ?_
      refine thenQ_n ?_
      refine E_seq ?_
      refine E_seqR ?_
      refine EL_val (R_move rfl) rfl rfl rfl ?_
      refine EL_val (R_nilCheck rfl) rfl rfl rfl ?_
      refine EL_val (R_fieldAddr rfl K.fT67_1) rfl rfl rfl ?_
      refine EL_val (R_load rfl K.ag3 (h.cLeft)) rfl rfl rfl ?_
      first | refine EL_val (R_gtr_t rfl rfl (by omega)) rfl rfl rfl ?_ | refine EL_val (R_gtr_f rfl rfl (by omega)) rfl rfl rfl ?_
      refine EL_nil ?_
      refine E_cond_f rfl ?_
      refine E_skip ?_
      refine thenQ_n ?_
      refine E_seqR ?_
      refine EL_val (R_assign rfl) rfl rfl rfl ?_
      refine EL_nil ?_
      refine E_ret ?_
      refine ret1 (.inr rfl) rfl rfl ?_
      have hs : spendS S = (S, 0) := by simp [spendS, h0, h1]
      rw [hs]
      exact ⟨rfl, h, DM.refl _ _⟩
end Go.Proofs.Ytobhogdndfbniaa
