/- The disk: Barrier, Restart, New. -/
import Derived.Test.YtobhogdndfbniaaDiskC
set_option linter.unusedVariables false
set_option linter.unusedSimpArgs false
set_option maxRecDepth 100000
namespace Go.Proofs.Ytobhogdndfbniaa
open Go.EW Go.RowKit

/-- the first i blocks have kept f of their open writes -/
def keepAll (S : DS) (f : Nat → Int) (i : Nat) : DS := { S with last := fun j => if j < i then keepL S j (f j) else S.last j, opn := fun j => if j < i then [] else S.opn j }
theorem keepAll_zero (S : DS) (f : Nat → Int) : keepAll S f 0 = S := by cases S; simp [keepAll]
theorem keepAll_succ (S : DS) (f : Nat → Int) (i : Nat) : keepS (keepAll S f i) i (f i) = keepAll S f (i + 1) := by
  have hL : keepL (keepAll S f i) i (f i) = keepL S i (f i) := by simp [keepL, keepAll]
  unfold keepS
  rw [hL]
  simp only [keepAll, DS.mk.injEq, true_and]
  refine ⟨funext fun j => ?_, funext fun j => ?_⟩
  · by_cases hj : j = i
    · subst hj; simp [fup]
    · simp only [fup, if_neg hj]
      by_cases h : j < i
      · rw [if_pos h, if_pos (by omega)]
      · rw [if_neg h, if_neg (by omega)]
  · by_cases hj : j = i
    · subst hj; simp [fup]
    · simp only [fup, if_neg hj]
      by_cases h : j < i
      · rw [if_pos h, if_pos (by omega)]
      · rw [if_neg h, if_neg (by omega)]
/-- everything lasts -/
def allS (S : DS) : DS := keepAll S (fun j => (S.opn j).length) S.n
def barrierS (S : DS) : DS × Int := if S.off then (S, 8) else if (spendS S).2 = 0 then (allS (spendS S).1, 0) else ((spendS S).1, 8)
theorem spend_cases (S : DS) : (spendS S).2 = 0 ∨ (spendS S).2 = 8 := by
  unfold spendS
  split
  · exact .inr rfl
  · split <;> exact .inl rfl
theorem spend_n (S : DS) : (spendS S).1.n = S.n := by
  unfold spendS
  split
  · rfl
  · split <;> rfl
theorem barrier_nil {w : World} : Ret Try.prog 19 [.pointer none] w fun v w' => v = .int .i64 1 ∧ w = w' := by
  refine Ret.enter Try.func19 rfl Try.ntmps19 rfl ?_
  simp only [argEnv, Nat.reduceAdd]
  refine E_seqR ?_
  refine EL_val (R_assign rfl) rfl rfl rfl ?_
  refine EL_nil ?_
  refine E_seqR ?_
  refine EL_val (R_move rfl) rfl rfl rfl ?_
  refine EL_step rfl ?_
  refine EO_call K.bd30 rfl rfl (ready_nil) ?_
  rintro _ _ ⟨rfl, rfl⟩
  refine EL_val (R_assign rfl) rfl rfl rfl ?_
  refine EL_nil ?_
  refine E_seq ?_
  refine E_seqR ?_
  refine EL_val (R_move rfl) rfl rfl rfl ?_
  first | refine EL_val (R_eql_t rfl rfl (by omega)) rfl rfl rfl ?_ | refine EL_val (R_eql_f rfl rfl (by omega)) rfl rfl rfl ?_
  refine EL_nil ?_
  refine E_cond_f rfl ?_
  refine E_skip ?_
  refine thenQ_n ?_
  refine E_seq ?_
  refine E_seqR ?_
  refine EL_val (R_assign rfl) rfl rfl rfl ?_
  refine EL_nil ?_
  refine E_block ?_
  refine E_loop (fun m e' w' => m = 0 ∧ e' = [(3, .int .i64 1)] ∧ w = w') 0 [(3, .int .i64 1)] ⟨rfl, trivial⟩ ⟨rfl, rfl, rfl⟩ ?_
  rintro m e w' ⟨rfl, rfl, rfl⟩
  refine E_seq ?_
  refine E_seqR ?_
  refine EL_val (R_move rfl) rfl rfl rfl ?_
  first | refine EL_val (R_eql_t rfl rfl (by omega)) rfl rfl rfl ?_ | refine EL_val (R_eql_f rfl rfl (by omega)) rfl rfl rfl ?_
  refine EL_val (R_move rfl) rfl rfl rfl ?_
  refine EL_not rfl rfl rfl ?_
  refine EL_not rfl rfl rfl ?_
  refine EL_not rfl rfl rfl ?_
  refine EL_not rfl rfl rfl ?_
  refine EL_not rfl rfl rfl ?_
  refine EL_not rfl rfl rfl ?_
  refine EL_not rfl rfl rfl ?_
  first | refine EL_val (R_pick_t rfl rfl) rfl rfl rfl ?_ | refine EL_val (R_pick_f rfl rfl) rfl rfl rfl ?_
  refine EL_nil ?_
  refine E_cond_f rfl ?_
  refine E_exit ?_
  refine thenQ_e ?_
  refine thenQ_e ?_
  refine inB_eq rfl ?_
  refine thenQ_n ?_
  refine E_seqR ?_
  refine EL_val (R_move rfl) rfl rfl rfl ?_
  refine EL_val (R_assign rfl) rfl rfl rfl ?_
  refine EL_nil ?_
  refine E_ret ?_
  refine ret1 (.inr rfl) rfl rfl ?_
  exact ⟨rfl, rfl⟩
theorem barrier_ok {w : World} {B d g : Nat} {C : Array Value} {ov : Nat → Value} {S : DS} (h : DiskAt w B d g C ov S) :
    Ret Try.prog 19 [ptr d] w fun v w' => v = .int .i64 (barrierS S).2 ∧ Disk w' B d (barrierS S).1 ∧ DM B w w' := by
  cases ho : S.off
  · have hr : readyS S = 0 := by simp [readyS, ho]
    rcases spend_cases S with hs | hs
    · have hB : barrierS S = (allS (spendS S).1, 0) := by simp [barrierS, ho, hs]
      rw [hB]
      obtain ⟨S1, hS1⟩ : ∃ S1, S1 = (spendS S).1 := ⟨_, rfl⟩
      have hn : S1.n = S.n := by rw [hS1]; exact spend_n S
      rw [← hS1]
      have hnle := h.nle
      refine Ret.enter Try.func19 rfl Try.ntmps19 rfl ?_
      simp only [argEnv, Nat.reduceAdd]
      refine E_seqR ?_
      refine EL_val (R_assign rfl) rfl rfl rfl ?_
      refine EL_nil ?_
      refine E_seqR ?_
      refine EL_val (R_move rfl) rfl rfl rfl ?_
      refine EL_step rfl ?_
      refine EO_call K.bd30 rfl rfl (ready_ok h) ?_
      rintro _ _ ⟨rfl, rfl⟩
      refine EL_val (R_assign rfl) rfl rfl rfl ?_
      refine EL_nil ?_
      refine E_seq ?_
      refine E_seqR ?_
      refine EL_val (R_move rfl) rfl rfl rfl ?_
      first | refine EL_val (R_eql_t rfl rfl (by omega)) rfl rfl rfl ?_ | refine EL_val (R_eql_f rfl rfl (by omega)) rfl rfl rfl ?_
      refine EL_nil ?_
      refine E_cond_t rfl ?_
      refine E_region ?_
      refine EL_val (R_move rfl) rfl rfl rfl ?_
      refine EL_val (R_nilCheck rfl) rfl rfl rfl ?_
      refine EL_val (R_fieldAddr rfl K.fT70_0) rfl rfl rfl ?_
      refine EL_step rfl ?_
      refine EO_call K.bd31 rfl rfl (spend_ok h) ?_
      rintro _ w1 ⟨rfl, h1, hm1⟩
      refine EL_val (R_assign rfl) rfl rfl rfl ?_
      refine EL_nil ?_
      refine thenQ_n ?_
      refine E_seq ?_
      refine E_seqR ?_
      refine EL_val (R_assign rfl) rfl rfl rfl ?_
      refine EL_nil ?_
      refine E_block ?_
      rw [← hS1] at h1
      refine E_loop (fun m e' w' => ∃ i C' ov', i ≤ S.n ∧ m = S.n - i ∧ e' = [(0, ptr d), (3, .int .i64 0), (4, .int .i64 ((i : Nat) : Int))] ∧ DiskAt w' B d g C' ov' (keepAll S1 (fun j => (S1.opn j).length) i) ∧ DM B w w') S.n
        [(0, ptr d), (3, .int .i64 0), (4, .int .i64 ((0 : Nat) : Int))] ⟨rfl, by rw [hs]; rfl, rfl, trivial⟩ ⟨0, C, ov, by omega, by omega, rfl, by rw [keepAll_zero]; exact h1, hm1⟩ ?_
      rintro m e w' ⟨i, C', ov', hi, rfl, rfl, hD, hm⟩
      by_cases hlt : i < S.n
      · have hi1 : i < (keepAll S1 (fun j => (S1.opn j).length) i).n := by show i < S1.n; omega
        obtain ⟨Ao, co, hov, _⟩ := hD.form hi1
        have hrow := hD.row i hi1
        rw [hov] at hrow
        have hlen : ((keepAll S1 (fun j => (S1.opn j).length) i).opn i).length = (S1.opn i).length := by simp [keepAll]
        refine E_seq ?_
        refine E_seqR ?_
        refine EL_val (R_move rfl) rfl rfl rfl ?_
        first | refine EL_val (R_eql_t rfl rfl (by omega)) rfl rfl rfl ?_ | refine EL_val (R_eql_f rfl rfl (by omega)) rfl rfl rfl ?_
        refine EL_val (R_move rfl) rfl rfl rfl ?_
        first | refine EL_val (R_move rfl) rfl rfl rfl ?_ | refine EL_not rfl rfl rfl ?_
        first | refine EL_val (R_move rfl) rfl rfl rfl ?_ | refine EL_not rfl rfl rfl ?_
        first | refine EL_val (R_nilCheck rfl) rfl rfl rfl ?_ | refine EL_not rfl rfl rfl ?_
        first | refine EL_val (R_fieldAddr rfl K.fT70_1) rfl rfl rfl ?_ | refine EL_not rfl rfl rfl ?_
        first | refine EL_val (R_load rfl K.ag68 (hD.cRow)) rfl rfl rfl ?_ | refine EL_not rfl rfl rfl ?_
        first | refine EL_val (R_lenSlice rfl Try.underlying68) rfl rfl rfl ?_ | refine EL_not rfl rfl rfl ?_
        first | refine EL_val (R_lss_t rfl rfl (by omega)) rfl rfl rfl ?_ | refine EL_val (R_lss_f rfl rfl (by omega)) rfl rfl rfl ?_ | refine EL_not rfl rfl rfl ?_
        first | refine EL_val (R_pick_t rfl rfl) rfl rfl rfl ?_ | refine EL_val (R_pick_f rfl rfl) rfl rfl rfl ?_
        refine EL_nil ?_
        refine E_cond_t rfl ?_
        refine E_skip ?_
        refine thenQ_n ?_
        refine E_seq ?_
        refine E_block ?_
        refine E_regionD (fun w' => [(15, fun w'' => w'' = w')]) 16 K.mix rfl ?_
        intro w7 hm7 hh7
        have hD7 := hD.no hm7
        refine EA_pure 0 rfl (fun _ => R_move rfl) (by kernel_rfl) rfl rfl rfl ?_
        refine EA_pure 1 rfl (fun _ => R_nilCheck rfl) (by kernel_rfl) rfl rfl rfl ?_
        refine EA_pure 2 rfl (fun _ => R_fieldAddr rfl K.fT70_1) (by kernel_rfl) rfl rfl rfl ?_
        refine EA_still 3 [5, 15] rfl (R_load rfl K.ag68 (hD7.cRow)) rfl (by kernel_rfl) (by kernel_rfl) rfl rfl rfl ?_
        refine EA_pure 4 rfl (fun _ => R_move rfl) (by kernel_rfl) rfl rfl rfl ?_
        refine EA_pure 5 rfl (fun _ => R_indexAddr rfl rfl Try.underlying68 K.sz74 rfl (by omega)) (by kernel_rfl) rfl rfl rfl ?_
        refine EA_pure 6 rfl (fun _ => R_move rfl) (by kernel_rfl) rfl rfl rfl ?_
        refine EA_pure 7 rfl (fun _ => R_nilCheck rfl) (by kernel_rfl) rfl rfl rfl ?_
        refine EA_pure 8 rfl (fun _ => R_fieldAddr rfl K.fT70_1) (by kernel_rfl) rfl rfl rfl ?_
        refine EA_still 9 [11, 12, 13, 14, 15] rfl (R_load rfl K.ag68 (hD7.cRow)) rfl (by kernel_rfl) (by kernel_rfl) rfl rfl rfl ?_
        refine EA_pure 10 rfl (fun _ => R_move rfl) (by kernel_rfl) rfl rfl rfl ?_
        refine EA_pure 11 rfl (fun _ => R_indexAddr rfl rfl Try.underlying68 K.sz74 rfl (by omega)) (by kernel_rfl) rfl rfl rfl ?_
        refine EA_pure 12 rfl (fun _ => R_fieldAddr rfl K.fT74_1) (by kernel_rfl) rfl rfl rfl ?_
        refine EA_still 13 [14, 15] rfl (R_load rfl K.ag72 (hD7.hg.cell (by rw [Nat.zero_add]; exact hrow))) rfl (by kernel_rfl) (by kernel_rfl) rfl rfl rfl ?_
        refine EA_pure 14 rfl (fun _ => R_lenSlice rfl Try.underlying72) (by kernel_rfl) rfl rfl rfl ?_
        refine EA_one 15 rfl (by kernel_rfl) rfl ⟨fun _ => rfl, trivial⟩ ?_
        refine EO_call K.bd26 rfl rfl ((by rw [Nat.zero_add]; exact keep_ok hD7 hi1 _)) ?_
        rintro v w8 ⟨⟨C8, ov8, h8⟩, hm8⟩
        refine EA_done (by kernel_rfl) (Holds.done (by kernel_rfl)) ?_
        refine inB_n ?_
        refine thenQ_n ?_
        refine E_region ?_
        refine EL_val (R_move rfl) rfl rfl rfl ?_
        first | refine EL_val (R_inc rfl (by omega)) rfl rfl rfl ?_ | refine EL_val (R_add_in rfl rfl (by omega) (by omega)) rfl rfl rfl ?_
        refine EL_val (R_assign rfl) rfl rfl rfl ?_
        refine EL_nil ?_
        refine thenQ_n ?_
        refine ⟨rfl, S.n - (i + 1), [(0, ptr d), (3, .int .i64 0), (4, .int .i64 ((i + 1 : Nat) : Int))], ?_, ⟨rfl, rfl, rfl, trivial⟩, i + 1, C8, ov8, by omega, rfl, rfl, ?_, (hm.trans (DM.of_no hm7)).trans hm8⟩
        · omega
        · rw [← keepAll_succ, ← hlen]; exact h8
      · have hi' : i = S.n := by omega
        subst hi'
        have hnn : (keepAll S1 (fun j => (S1.opn j).length) S.n).n = S.n := hn
        refine E_seq ?_
        refine E_seqR ?_
        refine EL_val (R_move rfl) rfl rfl rfl ?_
        first | refine EL_val (R_eql_t rfl rfl (by omega)) rfl rfl rfl ?_ | refine EL_val (R_eql_f rfl rfl (by omega)) rfl rfl rfl ?_
        refine EL_val (R_move rfl) rfl rfl rfl ?_
        first | refine EL_val (R_move rfl) rfl rfl rfl ?_ | refine EL_not rfl rfl rfl ?_
        first | refine EL_val (R_move rfl) rfl rfl rfl ?_ | refine EL_not rfl rfl rfl ?_
        first | refine EL_val (R_nilCheck rfl) rfl rfl rfl ?_ | refine EL_not rfl rfl rfl ?_
        first | refine EL_val (R_fieldAddr rfl K.fT70_1) rfl rfl rfl ?_ | refine EL_not rfl rfl rfl ?_
        first | refine EL_val (R_load rfl K.ag68 (hD.cRow)) rfl rfl rfl ?_ | refine EL_not rfl rfl rfl ?_
        first | refine EL_val (R_lenSlice rfl Try.underlying68) rfl rfl rfl ?_ | refine EL_not rfl rfl rfl ?_
        first | refine EL_val (R_lss_t rfl rfl (by omega)) rfl rfl rfl ?_ | refine EL_val (R_lss_f rfl rfl (by omega)) rfl rfl rfl ?_ | refine EL_not rfl rfl rfl ?_
        first | refine EL_val (R_pick_t rfl rfl) rfl rfl rfl ?_ | refine EL_val (R_pick_f rfl rfl) rfl rfl rfl ?_
        refine EL_nil ?_
        refine E_cond_f rfl ?_
        refine E_exit ?_
        refine thenQ_e ?_
        refine thenQ_e ?_
        refine inB_eq rfl ?_
        refine thenQ_n ?_
        refine E_seqR ?_
        refine EL_val (R_move rfl) rfl rfl rfl ?_
        refine EL_val (R_assign rfl) rfl rfl rfl ?_
        refine EL_nil ?_
        refine E_ret ?_
        refine ret1 (.inr rfl) rfl rfl ?_
        exact ⟨rfl, ⟨g, C', ov', by rw [show allS S1 = keepAll S1 (fun j => (S1.opn j).length) S.n from by rw [allS, hn]]; exact hD⟩, hm⟩
    · have hB : barrierS S = ((spendS S).1, 8) := by simp [barrierS, ho, hs]
      rw [hB]
      refine Ret.enter Try.func19 rfl Try.ntmps19 rfl ?_
      simp only [argEnv, Nat.reduceAdd]
      refine E_seqR ?_
      refine EL_val (R_assign rfl) rfl rfl rfl ?_
      refine EL_nil ?_
      refine E_seqR ?_
      refine EL_val (R_move rfl) rfl rfl rfl ?_
      refine EL_step rfl ?_
      refine EO_call K.bd30 rfl rfl (ready_ok h) ?_
      rintro _ _ ⟨rfl, rfl⟩
      refine EL_val (R_assign rfl) rfl rfl rfl ?_
      refine EL_nil ?_
      refine E_seq ?_
      refine E_seqR ?_
      refine EL_val (R_move rfl) rfl rfl rfl ?_
      first | refine EL_val (R_eql_t rfl rfl (by omega)) rfl rfl rfl ?_ | refine EL_val (R_eql_f rfl rfl (by omega)) rfl rfl rfl ?_
      refine EL_nil ?_
      refine E_cond_t rfl ?_
      refine E_region ?_
      refine EL_val (R_move rfl) rfl rfl rfl ?_
      refine EL_val (R_nilCheck rfl) rfl rfl rfl ?_
      refine EL_val (R_fieldAddr rfl K.fT70_0) rfl rfl rfl ?_
      refine EL_step rfl ?_
      refine EO_call K.bd31 rfl rfl (spend_ok h) ?_
      rintro _ w1 ⟨rfl, h1, hm1⟩
      refine EL_val (R_assign rfl) rfl rfl rfl ?_
      refine EL_nil ?_
      refine thenQ_n ?_
      refine E_seq ?_
      refine E_seqR ?_
      refine EL_val (R_assign rfl) rfl rfl rfl ?_
      refine EL_nil ?_
      refine E_block ?_
      refine E_loop (fun m e' w' => m = 0 ∧ e' = [(3, .int .i64 8)] ∧ w1 = w') 0 [(3, .int .i64 8)] ⟨by rw [← hs]; rfl, trivial⟩ ⟨rfl, rfl, rfl⟩ ?_
      rintro m e w' ⟨rfl, rfl, rfl⟩
      refine E_seq ?_
      refine E_seqR ?_
      refine EL_val (R_move rfl) rfl rfl rfl ?_
      first | refine EL_val (R_eql_t rfl rfl (by omega)) rfl rfl rfl ?_ | refine EL_val (R_eql_f rfl rfl (by omega)) rfl rfl rfl ?_
      refine EL_val (R_move rfl) rfl rfl rfl ?_
      refine EL_not rfl rfl rfl ?_
      refine EL_not rfl rfl rfl ?_
      refine EL_not rfl rfl rfl ?_
      refine EL_not rfl rfl rfl ?_
      refine EL_not rfl rfl rfl ?_
      refine EL_not rfl rfl rfl ?_
      refine EL_not rfl rfl rfl ?_
      first | refine EL_val (R_pick_t rfl rfl) rfl rfl rfl ?_ | refine EL_val (R_pick_f rfl rfl) rfl rfl rfl ?_
      refine EL_nil ?_
      refine E_cond_f rfl ?_
      refine E_exit ?_
      refine thenQ_e ?_
      refine thenQ_e ?_
      refine inB_eq rfl ?_
      refine thenQ_n ?_
      refine E_seqR ?_
      refine EL_val (R_move rfl) rfl rfl rfl ?_
      refine EL_val (R_assign rfl) rfl rfl rfl ?_
      refine EL_nil ?_
      refine E_ret ?_
      refine ret1 (.inr rfl) rfl rfl ?_
      exact ⟨rfl, ⟨g, C, ov, h1⟩, hm1⟩
  · have hr : readyS S = 8 := by simp [readyS, ho]
    have hB : barrierS S = (S, 8) := by simp [barrierS, ho]
    rw [hB]
    refine Ret.enter Try.func19 rfl Try.ntmps19 rfl ?_
    simp only [argEnv, Nat.reduceAdd]
    refine E_seqR ?_
    refine EL_val (R_assign rfl) rfl rfl rfl ?_
    refine EL_nil ?_
    refine E_seqR ?_
    refine EL_val (R_move rfl) rfl rfl rfl ?_
    refine EL_step rfl ?_
    refine EO_call K.bd30 rfl rfl (ready_ok h) ?_
    rintro _ _ ⟨rfl, rfl⟩
    refine EL_val (R_assign rfl) rfl rfl rfl ?_
    refine EL_nil ?_
    refine E_seq ?_
    refine E_seqR ?_
    refine EL_val (R_move rfl) rfl rfl rfl ?_
    first | refine EL_val (R_eql_t rfl rfl (by omega)) rfl rfl rfl ?_ | refine EL_val (R_eql_f rfl rfl (by omega)) rfl rfl rfl ?_
    refine EL_nil ?_
    refine E_cond_f rfl ?_
    refine E_skip ?_
    refine thenQ_n ?_
    refine E_seq ?_
    refine E_seqR ?_
    refine EL_val (R_assign rfl) rfl rfl rfl ?_
    refine EL_nil ?_
    refine E_block ?_
    refine E_loop (fun m e' w' => m = 0 ∧ e' = [(3, .int .i64 8)] ∧ w = w') 0 [(3, .int .i64 8)] ⟨by rw [← hr]; rfl, trivial⟩ ⟨rfl, rfl, rfl⟩ ?_
    rintro m e w' ⟨rfl, rfl, rfl⟩
    refine E_seq ?_
    refine E_seqR ?_
    refine EL_val (R_move rfl) rfl rfl rfl ?_
    first | refine EL_val (R_eql_t rfl rfl (by omega)) rfl rfl rfl ?_ | refine EL_val (R_eql_f rfl rfl (by omega)) rfl rfl rfl ?_
    refine EL_val (R_move rfl) rfl rfl rfl ?_
    refine EL_not rfl rfl rfl ?_
    refine EL_not rfl rfl rfl ?_
    refine EL_not rfl rfl rfl ?_
    refine EL_not rfl rfl rfl ?_
    refine EL_not rfl rfl rfl ?_
    refine EL_not rfl rfl rfl ?_
    refine EL_not rfl rfl rfl ?_
    first | refine EL_val (R_pick_t rfl rfl) rfl rfl rfl ?_ | refine EL_val (R_pick_f rfl rfl) rfl rfl rfl ?_
    refine EL_nil ?_
    refine E_cond_f rfl ?_
    refine E_exit ?_
    refine thenQ_e ?_
    refine thenQ_e ?_
    refine inB_eq rfl ?_
    refine thenQ_n ?_
    refine E_seqR ?_
    refine EL_val (R_move rfl) rfl rfl rfl ?_
    refine EL_val (R_assign rfl) rfl rfl rfl ?_
    refine EL_nil ?_
    refine E_ret ?_
    refine ret1 (.inr rfl) rfl rfl ?_
    exact ⟨rfl, ⟨g, C, ov, h⟩, DM.refl _ _⟩
end Go.Proofs.Ytobhogdndfbniaa
