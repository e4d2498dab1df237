/- The law JournalArgs: the walk through its code. -/
import Derived.Test.YtobhogdndfbniaaJTools
set_option linter.unusedVariables false
set_option linter.unusedSimpArgs false
set_option maxRecDepth 100000
namespace Go.Proofs.Ytobhogdndfbniaa
open Go.EW Go.RowKit

theorem openn_on {w : World} {B d : Nat} {S : DS} (h : Disk w B d S) {i : Nat} (hi : i < S.n) : Ret Try.prog 17 [ptr d, .int .i64 (i : Int)] w fun v w' => v = .int .i64 ((S.opn i).length : Int) ∧ w = w' := by
  obtain ⟨g, C, ov, h⟩ := h
  refine (open_ok h (i : Int)).mono fun v w' ⟨h1, h2⟩ => ⟨?_, h2⟩
  rw [h1]
  unfold openS
  rw [if_neg (by omega), Int.toNat_natCast]
set_option maxHeartbeats 4000000 in
theorem jargs_walk {w : World} {z : Int} {A1 : Option Addr} {hd : List UInt8} {c1 : Nat} {v2 : Value} (hh : BS w A1 hd) (hdl : hd.length ≤ 9223372036854775807) :
    Ret Try.prog 4 [.int .i64 z, .slice A1 hd.length c1, v2] w fun v w' => v = .bool true ∧ Mods No w w' := by
  obtain ⟨B, hB⟩ : ∃ B, B = w.heap.size := ⟨_, rfl⟩
  by_cases hz : z < 1 ∨ 480 < z
  · refine Ret.enter Try.func4 rfl Try.ntmps4 rfl ?_
    simp only [argEnv, Nat.reduceAdd]
    refine E_seqR ?_
    refine EL_val (R_assign rfl) rfl rfl rfl ?_
    refine EL_nil ?_
    refine E_seqR ?_
    refine EL_val (R_move rfl) rfl rfl rfl ?_
    refine EL_step rfl ?_
    refine EO_call K.bd12 rfl rfl (new_bad hz) ?_
    rintro _ _ ⟨rfl, rfl⟩
    refine EL_val (R_move rfl) rfl rfl rfl ?_
    refine EL_val (R_extract rfl rfl) rfl rfl rfl ?_
    refine EL_val (R_extract rfl rfl) rfl rfl rfl ?_
    refine EL_val (R_assign rfl) rfl rfl rfl ?_
    refine EL_val (R_assign rfl) rfl rfl rfl ?_
    refine EL_nil ?_
    refine E_seqR ?_
    refine EL_val (R_assign rfl) rfl rfl rfl ?_
    refine EL_nil ?_
    refine E_seqR ?_
    refine EL_val (R_move rfl) rfl rfl rfl ?_
    refine EL_step rfl ?_
    refine EO_call K.bd11 rfl rfl (read_nil) ?_
    rintro _ _ ⟨rfl, rfl⟩
    refine EL_val (R_move rfl) rfl rfl rfl ?_
    refine EL_val (R_extract rfl rfl) rfl rfl rfl ?_
    refine EL_val (R_extract rfl rfl) rfl rfl rfl ?_
    refine EL_val (R_assign rfl) rfl rfl rfl ?_
    refine EL_val (R_assign rfl) rfl rfl rfl ?_
    refine EL_nil ?_
    refine E_seq ?_
    refine E_seqR ?_
    refine EL_val (R_move rfl) rfl rfl rfl ?_
    first | refine EL_val (R_neq_t rfl rfl (by omega)) rfl rfl rfl ?_ | refine EL_val (R_neq_f rfl rfl (by omega)) rfl rfl rfl ?_
    refine EL_val (R_move rfl) rfl rfl rfl ?_
    first | refine EL_val (R_move rfl) rfl rfl rfl ?_ | refine EL_not rfl rfl rfl ?_
    first | refine EL_val (R_move rfl) rfl rfl rfl ?_ | refine EL_not rfl rfl rfl ?_
    refine EL_step rfl ?_
    refine EO_call K.bd8 rfl rfl (commit_nil) ?_
    rintro _ w2 ⟨rfl, hm2⟩
    first | refine EL_val (R_move rfl) rfl rfl rfl ?_ | refine EL_not rfl rfl rfl ?_
    first | refine EL_val (R_neq_t rfl rfl (by omega)) rfl rfl rfl ?_ | refine EL_val (R_neq_f rfl rfl (by omega)) rfl rfl rfl ?_ | refine EL_not rfl rfl rfl ?_
    first | refine EL_val (R_pick_t rfl rfl) rfl rfl rfl ?_ | refine EL_val (R_pick_f rfl rfl) rfl rfl rfl ?_
    refine EL_val (R_move rfl) rfl rfl rfl ?_
    first | refine EL_val (R_move rfl) rfl rfl rfl ?_ | refine EL_not rfl rfl rfl ?_
    refine EL_step rfl ?_
    refine EO_call K.bd13 rfl rfl (head_nil) ?_
    rintro _ w3 ⟨rfl, hm3⟩
    first | refine EL_val (R_build (cells := #[.int .i64 0, .int .i64 0]) K.zr46 K.pl46 rfl rfl) rfl rfl rfl ?_ | refine EL_not rfl rfl rfl ?_
    first | refine EL_val (R_neqAgg (b := true) rfl rfl (by rw [heads_eq]; simp)) rfl rfl rfl ?_ | refine EL_not rfl rfl rfl ?_
    first | refine EL_val (R_pick_t rfl rfl) rfl rfl rfl ?_ | refine EL_val (R_pick_f rfl rfl) rfl rfl rfl ?_
    refine EL_nil ?_
    refine E_cond_f rfl ?_
    refine E_skip ?_
    refine thenQ_n ?_
    refine E_seqR ?_
    refine EL_val (R_move rfl) rfl rfl rfl ?_
    refine EL_step rfl ?_
    refine EO_call K.bd14 rfl rfl (looks_nil) ?_
    rintro _ w4 ⟨rfl, hm4⟩
    refine EL_val (R_move rfl) rfl rfl rfl ?_
    refine EL_val (R_extract rfl rfl) rfl rfl rfl ?_
    refine EL_val (R_extract rfl rfl) rfl rfl rfl ?_
    refine EL_val (R_assign rfl) rfl rfl rfl ?_
    refine EL_val (R_assign rfl) rfl rfl rfl ?_
    refine EL_nil ?_
    refine E_seqR ?_
    refine EL_val (R_move rfl) rfl rfl rfl ?_
    refine EL_step rfl ?_
    refine EO_call K.bd10 rfl rfl (openj_nil) ?_
    rintro _ w5 ⟨rfl, hm5⟩
    refine EL_val (R_move rfl) rfl rfl rfl ?_
    refine EL_val (R_extract rfl rfl) rfl rfl rfl ?_
    refine EL_val (R_extract rfl rfl) rfl rfl rfl ?_
    refine EL_val (R_assign rfl) rfl rfl rfl ?_
    refine EL_val (R_assign rfl) rfl rfl rfl ?_
    refine EL_nil ?_
    refine E_seq ?_
    refine E_seqR ?_
    refine EL_val (R_move rfl) rfl rfl rfl ?_
    first | refine EL_val (R_neq_t rfl rfl (by omega)) rfl rfl rfl ?_ | refine EL_val (R_neq_f rfl rfl (by omega)) rfl rfl rfl ?_
    refine EL_val (R_move rfl) rfl rfl rfl ?_
    first | refine EL_val (R_move rfl) rfl rfl rfl ?_ | refine EL_not rfl rfl rfl ?_
    first | refine EL_val (R_lss_t rfl rfl (by omega)) rfl rfl rfl ?_ | refine EL_val (R_lss_f rfl rfl (by omega)) rfl rfl rfl ?_ | refine EL_not rfl rfl rfl ?_
    first | refine EL_val (R_pick_t rfl rfl) rfl rfl rfl ?_ | refine EL_val (R_pick_f rfl rfl) rfl rfl rfl ?_
    refine EL_nil ?_
    refine E_cond_t rfl ?_
    refine E_seqR ?_
    refine EL_step rfl ?_
    refine EO_call K.bd7 rfl rfl (awake16_ok) ?_
    rintro _ w6 ⟨rfl, hm6⟩
    refine EL_val (R_move rfl) rfl rfl rfl ?_
    first | refine EL_val (R_move rfl) rfl rfl rfl ?_ | refine EL_not rfl rfl rfl ?_
    first | refine EL_val (R_eql_t rfl rfl (by omega)) rfl rfl rfl ?_ | refine EL_val (R_eql_f rfl rfl (by omega)) rfl rfl rfl ?_ | refine EL_not rfl rfl rfl ?_
    first | refine EL_val (R_pick_t rfl rfl) rfl rfl rfl ?_ | refine EL_val (R_pick_f rfl rfl) rfl rfl rfl ?_
    refine EL_val (R_move rfl) rfl rfl rfl ?_
    first | refine EL_val (R_move rfl) rfl rfl rfl ?_ | refine EL_not rfl rfl rfl ?_
    first | refine EL_val (R_move rfl) rfl rfl rfl ?_ | refine EL_not rfl rfl rfl ?_
    first | refine EL_val (R_eql_t rfl rfl (by omega)) rfl rfl rfl ?_ | refine EL_val (R_eql_f rfl rfl (by omega)) rfl rfl rfl ?_ | refine EL_not rfl rfl rfl ?_
    first | refine EL_val (R_pick_t rfl rfl) rfl rfl rfl ?_ | refine EL_val (R_pick_f rfl rfl) rfl rfl rfl ?_
    refine EL_val (R_assign rfl) rfl rfl rfl ?_
    refine EL_nil ?_
    refine E_ret ?_
    refine thenQ_r ?_
    refine ret1 (.inr rfl) rfl rfl ?_
    exact ⟨rfl, (((hm2.trans hm3).trans hm4).trans hm5).trans hm6⟩
  · obtain ⟨n, rfl⟩ : ∃ n : Nat, z = (n : Int) := ⟨z.toNat, by omega⟩
    by_cases h64 : n < 64
    · refine Ret.enter Try.func4 rfl Try.ntmps4 rfl ?_
      simp only [argEnv, Nat.reduceAdd]
      refine E_seqR ?_
      refine EL_val (R_assign rfl) rfl rfl rfl ?_
      refine EL_nil ?_
      refine E_seqR ?_
      refine EL_val (R_move rfl) rfl rfl rfl ?_
      refine EL_step rfl ?_
      refine EO_call K.bd12 rfl rfl (new_ok (B := B) (by omega) (by omega) (by omega)) ?_
      rintro _ w1 ⟨d, rfl, hD1, hm1⟩
      refine EL_val (R_move rfl) rfl rfl rfl ?_
      refine EL_val (R_extract rfl rfl) rfl rfl rfl ?_
      refine EL_val (R_extract rfl rfl) rfl rfl rfl ?_
      refine EL_val (R_assign rfl) rfl rfl rfl ?_
      refine EL_val (R_assign rfl) rfl rfl rfl ?_
      refine EL_nil ?_
      refine E_seqR ?_
      refine EL_val (R_assign rfl) rfl rfl rfl ?_
      refine EL_nil ?_
      refine E_seqR ?_
      refine EL_val (R_move rfl) rfl rfl rfl ?_
      refine EL_step rfl ?_
      refine EO_call K.bd11 rfl rfl (read_nil) ?_
      rintro _ _ ⟨rfl, rfl⟩
      refine EL_val (R_move rfl) rfl rfl rfl ?_
      refine EL_val (R_extract rfl rfl) rfl rfl rfl ?_
      refine EL_val (R_extract rfl rfl) rfl rfl rfl ?_
      refine EL_val (R_assign rfl) rfl rfl rfl ?_
      refine EL_val (R_assign rfl) rfl rfl rfl ?_
      refine EL_nil ?_
      refine E_seq ?_
      refine E_seqR ?_
      refine EL_val (R_move rfl) rfl rfl rfl ?_
      first | refine EL_val (R_neq_t rfl rfl (by omega)) rfl rfl rfl ?_ | refine EL_val (R_neq_f rfl rfl (by omega)) rfl rfl rfl ?_
      refine EL_val (R_move rfl) rfl rfl rfl ?_
      first | refine EL_val (R_move rfl) rfl rfl rfl ?_ | refine EL_not rfl rfl rfl ?_
      first | refine EL_val (R_move rfl) rfl rfl rfl ?_ | refine EL_not rfl rfl rfl ?_
      refine EL_step rfl ?_
      refine EO_call K.bd8 rfl rfl (commit_nil) ?_
      rintro _ w2 ⟨rfl, hm2⟩
      first | refine EL_val (R_move rfl) rfl rfl rfl ?_ | refine EL_not rfl rfl rfl ?_
      first | refine EL_val (R_neq_t rfl rfl (by omega)) rfl rfl rfl ?_ | refine EL_val (R_neq_f rfl rfl (by omega)) rfl rfl rfl ?_ | refine EL_not rfl rfl rfl ?_
      first | refine EL_val (R_pick_t rfl rfl) rfl rfl rfl ?_ | refine EL_val (R_pick_f rfl rfl) rfl rfl rfl ?_
      refine EL_val (R_move rfl) rfl rfl rfl ?_
      first | refine EL_val (R_move rfl) rfl rfl rfl ?_ | refine EL_not rfl rfl rfl ?_
      refine EL_step rfl ?_
      refine EO_call K.bd13 rfl rfl (head_nil) ?_
      rintro _ w3 ⟨rfl, hm3⟩
      (have hD3 := (hD1.no hm2).no hm3)
      first | refine EL_val (R_build (cells := #[.int .i64 0, .int .i64 0]) K.zr46 K.pl46 rfl rfl) rfl rfl rfl ?_ | refine EL_not rfl rfl rfl ?_
      first | refine EL_val (R_neqAgg (b := true) rfl rfl (by rw [heads_eq]; simp)) rfl rfl rfl ?_ | refine EL_not rfl rfl rfl ?_
      first | refine EL_val (R_pick_t rfl rfl) rfl rfl rfl ?_ | refine EL_val (R_pick_f rfl rfl) rfl rfl rfl ?_
      refine EL_nil ?_
      refine E_cond_f rfl ?_
      refine E_skip ?_
      refine thenQ_n ?_
      refine E_seqR ?_
      refine EL_val (R_move rfl) rfl rfl rfl ?_
      refine EL_step rfl ?_
      refine EO_call K.bd14 rfl rfl (look_less hD3 h64) ?_
      rintro _ w4 ⟨rfl, hm4⟩
      refine EL_val (R_move rfl) rfl rfl rfl ?_
      refine EL_val (R_extract rfl rfl) rfl rfl rfl ?_
      refine EL_val (R_extract rfl rfl) rfl rfl rfl ?_
      refine EL_val (R_assign rfl) rfl rfl rfl ?_
      refine EL_val (R_assign rfl) rfl rfl rfl ?_
      refine EL_nil ?_
      refine E_seqR ?_
      refine EL_val (R_move rfl) rfl rfl rfl ?_
      refine EL_step rfl ?_
      refine EO_call K.bd10 rfl rfl (openj_less (hD3.no hm4) h64) ?_
      rintro _ w5 ⟨rfl, hm5⟩
      refine EL_val (R_move rfl) rfl rfl rfl ?_
      refine EL_val (R_extract rfl rfl) rfl rfl rfl ?_
      refine EL_val (R_extract rfl rfl) rfl rfl rfl ?_
      refine EL_val (R_assign rfl) rfl rfl rfl ?_
      refine EL_val (R_assign rfl) rfl rfl rfl ?_
      refine EL_nil ?_
      refine E_seq ?_
      refine E_seqR ?_
      refine EL_val (R_move rfl) rfl rfl rfl ?_
      first | refine EL_val (R_neq_t rfl rfl (by omega)) rfl rfl rfl ?_ | refine EL_val (R_neq_f rfl rfl (by omega)) rfl rfl rfl ?_
      refine EL_val (R_move rfl) rfl rfl rfl ?_
      first | refine EL_val (R_move rfl) rfl rfl rfl ?_ | refine EL_not rfl rfl rfl ?_
      first | refine EL_val (R_lss_t rfl rfl (by omega)) rfl rfl rfl ?_ | refine EL_val (R_lss_f rfl rfl (by omega)) rfl rfl rfl ?_ | refine EL_not rfl rfl rfl ?_
      first | refine EL_val (R_pick_t rfl rfl) rfl rfl rfl ?_ | refine EL_val (R_pick_f rfl rfl) rfl rfl rfl ?_
      refine EL_nil ?_
      refine E_cond_t rfl ?_
      refine E_seqR ?_
      refine EL_step rfl ?_
      refine EO_call K.bd7 rfl rfl (awake16_ok) ?_
      rintro _ w6 ⟨rfl, hm6⟩
      refine EL_val (R_move rfl) rfl rfl rfl ?_
      first | refine EL_val (R_move rfl) rfl rfl rfl ?_ | refine EL_not rfl rfl rfl ?_
      first | refine EL_val (R_eql_t rfl rfl (by omega)) rfl rfl rfl ?_ | refine EL_val (R_eql_f rfl rfl (by omega)) rfl rfl rfl ?_ | refine EL_not rfl rfl rfl ?_
      first | refine EL_val (R_pick_t rfl rfl) rfl rfl rfl ?_ | refine EL_val (R_pick_f rfl rfl) rfl rfl rfl ?_
      refine EL_val (R_move rfl) rfl rfl rfl ?_
      first | refine EL_val (R_move rfl) rfl rfl rfl ?_ | refine EL_not rfl rfl rfl ?_
      first | refine EL_val (R_move rfl) rfl rfl rfl ?_ | refine EL_not rfl rfl rfl ?_
      first | refine EL_val (R_eql_t rfl rfl (by omega)) rfl rfl rfl ?_ | refine EL_val (R_eql_f rfl rfl (by omega)) rfl rfl rfl ?_ | refine EL_not rfl rfl rfl ?_
      first | refine EL_val (R_pick_t rfl rfl) rfl rfl rfl ?_ | refine EL_val (R_pick_f rfl rfl) rfl rfl rfl ?_
      refine EL_val (R_assign rfl) rfl rfl rfl ?_
      refine EL_nil ?_
      refine E_ret ?_
      refine thenQ_r ?_
      refine ret1 (.inr rfl) rfl rfl ?_
      exact ⟨rfl, ((((hm1.trans hm2).trans hm3).trans hm4).trans hm5).trans hm6⟩
    · obtain ⟨b, hb⟩ : ∃ b, b = pad64 hd := ⟨_, rfl⟩
      have hbl : b.length = 64 := by rw [hb]; exact pad64_length _
      have hz0 : getHeadS (nowS (newS n) 1) = none := getHead_zeros
      have hgood : GoodW n [((1 : Int), b)] := fun p hp => by rw [List.mem_singleton.1 hp]; exact ⟨by simp, by show (1 : Int) < (n : Int); omega, hbl⟩
      have hnow1 : nowS (putF (newS n) [((1 : Int), b)]) 1 = b := by rw [putF_now, lastW_one]; rfl
      have hopn1 : (putF (newS n) [((1 : Int), b)]).opn 1 = [b] := rfl
      have hfew : ∀ i, i < n → ((putF (newS n) [((1 : Int), b)]).opn i).length ≤ 1000 := fun i _ => by
        show ([] ++ putsTo [((1 : Int), b)] i).length ≤ 1000
        have := putsTo_le [((1 : Int), b)] i
        simp at this ⊢
        omega
      obtain ⟨S1, hS1⟩ : ∃ S1, S1 = putF (newS n) [((1 : Int), b)] := ⟨_, rfl⟩
      have hS1n : S1.n = n := by rw [hS1]; rfl
      have hS1f : Free S1 := by rw [hS1]; exact ⟨rfl, rfl⟩
      rw [← hS1] at hnow1 hopn1 hfew
      cases hgt : getHeadS b with
      | none =>
        have hg1 : getHeadS (nowS S1 1) = none := by rw [hnow1]; exact hgt
        refine Ret.enter Try.func4 rfl Try.ntmps4 rfl ?_
        simp only [argEnv, Nat.reduceAdd]
        refine E_seqR ?_
        refine EL_val (R_assign rfl) rfl rfl rfl ?_
        refine EL_nil ?_
        refine E_seqR ?_
        refine EL_val (R_move rfl) rfl rfl rfl ?_
        refine EL_step rfl ?_
        refine EO_call K.bd12 rfl rfl (new_ok (B := B) (by omega) (by omega) (by omega)) ?_
        rintro _ w1 ⟨d, rfl, hD1, hm1⟩
        refine EL_val (R_move rfl) rfl rfl rfl ?_
        refine EL_val (R_extract rfl rfl) rfl rfl rfl ?_
        refine EL_val (R_extract rfl rfl) rfl rfl rfl ?_
        refine EL_val (R_assign rfl) rfl rfl rfl ?_
        refine EL_val (R_assign rfl) rfl rfl rfl ?_
        refine EL_nil ?_
        refine E_seqR ?_
        refine EL_val (R_assign rfl) rfl rfl rfl ?_
        refine EL_nil ?_
        refine E_seqR ?_
        refine EL_val (R_move rfl) rfl rfl rfl ?_
        refine EL_step rfl ?_
        refine EO_call K.bd11 rfl rfl (read_nil) ?_
        rintro _ _ ⟨rfl, rfl⟩
        refine EL_val (R_move rfl) rfl rfl rfl ?_
        refine EL_val (R_extract rfl rfl) rfl rfl rfl ?_
        refine EL_val (R_extract rfl rfl) rfl rfl rfl ?_
        refine EL_val (R_assign rfl) rfl rfl rfl ?_
        refine EL_val (R_assign rfl) rfl rfl rfl ?_
        refine EL_nil ?_
        refine E_seq ?_
        refine E_seqR ?_
        refine EL_val (R_move rfl) rfl rfl rfl ?_
        first | refine EL_val (R_neq_t rfl rfl (by omega)) rfl rfl rfl ?_ | refine EL_val (R_neq_f rfl rfl (by omega)) rfl rfl rfl ?_
        refine EL_val (R_move rfl) rfl rfl rfl ?_
        first | refine EL_val (R_move rfl) rfl rfl rfl ?_ | refine EL_not rfl rfl rfl ?_
        first | refine EL_val (R_move rfl) rfl rfl rfl ?_ | refine EL_not rfl rfl rfl ?_
        refine EL_step rfl ?_
        refine EO_call K.bd8 rfl rfl (commit_nil) ?_
        rintro _ w2 ⟨rfl, hm2⟩
        first | refine EL_val (R_move rfl) rfl rfl rfl ?_ | refine EL_not rfl rfl rfl ?_
        first | refine EL_val (R_neq_t rfl rfl (by omega)) rfl rfl rfl ?_ | refine EL_val (R_neq_f rfl rfl (by omega)) rfl rfl rfl ?_ | refine EL_not rfl rfl rfl ?_
        first | refine EL_val (R_pick_t rfl rfl) rfl rfl rfl ?_ | refine EL_val (R_pick_f rfl rfl) rfl rfl rfl ?_
        refine EL_val (R_move rfl) rfl rfl rfl ?_
        first | refine EL_val (R_move rfl) rfl rfl rfl ?_ | refine EL_not rfl rfl rfl ?_
        refine EL_step rfl ?_
        refine EO_call K.bd13 rfl rfl (head_nil) ?_
        rintro _ w3 ⟨rfl, hm3⟩
        (have hD3 := (hD1.no hm2).no hm3)
        first | refine EL_val (R_build (cells := #[.int .i64 0, .int .i64 0]) K.zr46 K.pl46 rfl rfl) rfl rfl rfl ?_ | refine EL_not rfl rfl rfl ?_
        first | refine EL_val (R_neqAgg (b := true) rfl rfl (by rw [heads_eq]; simp)) rfl rfl rfl ?_ | refine EL_not rfl rfl rfl ?_
        first | refine EL_val (R_pick_t rfl rfl) rfl rfl rfl ?_ | refine EL_val (R_pick_f rfl rfl) rfl rfl rfl ?_
        refine EL_nil ?_
        refine E_cond_f rfl ?_
        refine E_skip ?_
        refine thenQ_n ?_
        refine E_seqR ?_
        refine EL_val (R_move rfl) rfl rfl rfl ?_
        refine EL_step rfl ?_
        refine EO_call K.bd14 rfl rfl (look_none hD3 ⟨rfl, rfl⟩ h64 hz0) ?_
        rintro _ w4 ⟨rfl, hm4⟩
        refine EL_val (R_move rfl) rfl rfl rfl ?_
        refine EL_val (R_extract rfl rfl) rfl rfl rfl ?_
        refine EL_val (R_extract rfl rfl) rfl rfl rfl ?_
        refine EL_val (R_assign rfl) rfl rfl rfl ?_
        refine EL_val (R_assign rfl) rfl rfl rfl ?_
        refine EL_nil ?_
        refine E_seqR ?_
        refine EL_val (R_move rfl) rfl rfl rfl ?_
        refine EL_step rfl ?_
        refine EO_call K.bd10 rfl rfl (openj_none (hD3.no hm4) ⟨rfl, rfl⟩ h64 hz0) ?_
        rintro _ w5 ⟨rfl, hm5⟩
        (have hD5 := (hD3.no hm4).no hm5; have hm15 := (((hm1.trans hm2).trans hm3).trans hm4).trans hm5; have hs5 := hm15.size)
        refine EL_val (R_move rfl) rfl rfl rfl ?_
        refine EL_val (R_extract rfl rfl) rfl rfl rfl ?_
        refine EL_val (R_extract rfl rfl) rfl rfl rfl ?_
        refine EL_val (R_assign rfl) rfl rfl rfl ?_
        refine EL_val (R_assign rfl) rfl rfl rfl ?_
        refine EL_nil ?_
        refine E_seq ?_
        refine E_seqR ?_
        refine EL_val (R_move rfl) rfl rfl rfl ?_
        first | refine EL_val (R_neq_t rfl rfl (by omega)) rfl rfl rfl ?_ | refine EL_val (R_neq_f rfl rfl (by omega)) rfl rfl rfl ?_
        refine EL_val (R_move rfl) rfl rfl rfl ?_
        first | refine EL_val (R_move rfl) rfl rfl rfl ?_ | refine EL_not rfl rfl rfl ?_
        first | refine EL_val (R_lss_t rfl rfl (by omega)) rfl rfl rfl ?_ | refine EL_val (R_lss_f rfl rfl (by omega)) rfl rfl rfl ?_ | refine EL_not rfl rfl rfl ?_
        first | refine EL_val (R_pick_t rfl rfl) rfl rfl rfl ?_ | refine EL_val (R_pick_f rfl rfl) rfl rfl rfl ?_
        refine EL_nil ?_
        refine E_cond_f rfl ?_
        refine E_skip ?_
        refine thenQ_n ?_
        refine E_seqR ?_
        refine EL_step rfl ?_
        refine EO_makeSlice 64 64 rfl rfl Try.underlying23 K.zr5 K.sz5 K.by5 (by first | rfl | omega) (by first | rfl | omega) (by omega) (by omega) (by omega) rfl ?_
        intro w6 hn6
        refine EL_val (R_assign rfl) rfl rfl rfl ?_
        refine EL_nil ?_
        refine E_seqR ?_
        refine EL_val (R_move rfl) rfl rfl rfl ?_
        refine EL_val (R_move rfl) rfl rfl rfl ?_
        refine EL_step rfl ?_
        refine EO_copy hn6.bk (hh.no (hm15.trans hn6.mods)) bval_one (by rw [size_madeCells]; omega) rfl rfl Try.underlying23 K.sz5 rfl ?_
        intro w7 hu7
        (have hob7 : OB B w7 (.slice (some ⟨w5.heap.size, 0, none⟩) 64 64) b := (by rw [hb]; exact ob_pad (OB.new hn6 (by omega) (by simp only [maxLen]; omega)) hn6.bk hu7); have hno57 : Mods No w5 w7 := hn6.mods.trans' hu7.mods (fun k hk e => by omega); have hD7 := hD5.no hno57; have hs6 := hn6.size; have hs7 := hu7.size; have hbs7 : BS w7 (some ⟨w5.heap.size, 0, none⟩) b := (by unfold OB at hob7; rw [hbl] at hob7; unfold BS; rw [hbl]; exact Src.own hob7))
        refine EL_nil ?_
        refine E_seqR ?_
        refine EL_val (R_move rfl) rfl rfl rfl ?_
        refine EL_step rfl ?_
        refine EO_call K.bd15 rfl rfl ((by have := refgethead_ok (c := 64) hbs7 (by omega) (by omega); unfold getHeadP at this; rw [hgt, hbl] at this; exact this)) ?_
        rintro _ w8 ⟨rfl, hm8⟩
        refine EL_val (R_move rfl) rfl rfl rfl ?_
        refine EL_val (R_extract rfl rfl) rfl rfl rfl ?_
        refine EL_val (R_extract rfl rfl) rfl rfl rfl ?_
        refine EL_step rfl ?_
        refine EO_alloc K.zr46 rfl ?_
        intro w9 hn9
        refine EL_step rfl ?_
        refine EO_storeWhole hn9.bk rfl rfl K.sz46 rfl rfl ?_
        intro w10 hu10
        (have hno710 : Mods No w7 w10 := (hm8.trans hn9.mods).trans' hu10.mods (fun k hk e => (by have := hm8.size; omega)); have hD10 := hD7.no hno710; have hob10 := hno710.own hob7 (fun _ _ h => h); have hs10 := hno710.size)
        refine EL_val (R_assign rfl) rfl rfl rfl ?_
        refine EL_nil ?_
        refine E_seqR ?_
        refine EL_val (R_move rfl) rfl rfl rfl ?_
        refine EL_val (R_move rfl) rfl rfl rfl ?_
        refine EL_val (R_build (cells := #[.int .i64 1, .slice (some ⟨w5.heap.size, 0, none⟩) 64 64]) K.zr35 K.pl35 rfl rfl) rfl rfl rfl ?_
        refine EL_step rfl ?_
        refine EO_buildSlice Try.underlying42 K.zr35 K.sz35 rfl rfl rfl (fill_whole rfl (by rw [size_madeCells])) rfl ?_
        intro w11 hn11
        (have hob11 := hn11.mods.own hob10 (fun _ _ h => h); have hD11 := hD10.no hn11.mods; have hs11 := hn11.size; have hw11 : Writes B w11 (some ⟨w10.heap.size, 0, none⟩) [((1 : Int), b)] := (by refine writes_one (c := 64) (base := B) (A := some ⟨w5.heap.size, 0, none⟩) ?_ ?_; rw [hbl]; exact hn11.bk; rw [hbl]; exact hob11))
        refine EL_step rfl ?_
        refine EO_call K.bd16 rfl rfl ((by have := put_on hD11 ⟨rfl, rfl⟩ (by omega) hw11 1 hgood (fun i hi => by simp [newS]); rw [← hS1] at this; exact this)) ?_
        rintro _ w12 ⟨rfl, hD12, hm12⟩
        (have hs12 := hm12.size)
        refine EL_nil ?_
        refine E_seqR ?_
        refine EL_val (R_move rfl) rfl rfl rfl ?_
        refine EL_step rfl ?_
        refine EO_call K.bd14 rfl rfl (look_none hD12 hS1f (by omega) hg1) ?_
        rintro _ w13 ⟨rfl, hm13⟩
        refine EL_val (R_move rfl) rfl rfl rfl ?_
        refine EL_val (R_extract rfl rfl) rfl rfl rfl ?_
        refine EL_val (R_extract rfl rfl) rfl rfl rfl ?_
        refine EL_val (R_assign rfl) rfl rfl rfl ?_
        refine EL_val (R_assign rfl) rfl rfl rfl ?_
        refine EL_nil ?_
        refine E_seqR ?_
        refine EL_val (R_move rfl) rfl rfl rfl ?_
        refine EL_step rfl ?_
        refine EO_call K.bd17 rfl rfl (openn_on (hD12.no hm13) (i := 1) (by omega)) ?_
        rintro _ _ ⟨rfl, rfl⟩
        refine EL_val (R_assign rfl) rfl rfl rfl ?_
        refine EL_nil ?_
        refine E_seqR ?_
        refine EL_val (R_move rfl) rfl rfl rfl ?_
        refine EL_step rfl ?_
        refine EO_call K.bd10 rfl rfl (openj_none (hD12.no hm13) hS1f (by omega) hg1) ?_
        rintro _ w14 ⟨rfl, hm14⟩
        refine EL_val (R_move rfl) rfl rfl rfl ?_
        refine EL_val (R_extract rfl rfl) rfl rfl rfl ?_
        refine EL_val (R_extract rfl rfl) rfl rfl rfl ?_
        refine EL_val (R_assign rfl) rfl rfl rfl ?_
        refine EL_val (R_assign rfl) rfl rfl rfl ?_
        refine EL_nil ?_
        refine E_seqR ?_
        refine EL_step rfl ?_
        refine EO_call K.bd7 rfl rfl (awake16_ok) ?_
        rintro _ w15 ⟨rfl, hm15'⟩
        refine EL_val (R_move rfl) rfl rfl rfl ?_
        first | refine EL_val (R_move rfl) rfl rfl rfl ?_ | refine EL_not rfl rfl rfl ?_
        first | refine EL_val (R_eql_t rfl rfl (by omega)) rfl rfl rfl ?_ | refine EL_val (R_eql_f rfl rfl (by omega)) rfl rfl rfl ?_ | refine EL_not rfl rfl rfl ?_
        first | refine EL_val (R_pick_t rfl rfl) rfl rfl rfl ?_ | refine EL_val (R_pick_f rfl rfl) rfl rfl rfl ?_
        refine EL_val (R_move rfl) rfl rfl rfl ?_
        first | refine EL_val (R_move rfl) rfl rfl rfl ?_ | refine EL_not rfl rfl rfl ?_
        first | refine EL_val (R_move rfl) rfl rfl rfl ?_ | refine EL_not rfl rfl rfl ?_
        first | refine EL_val (R_eql_t rfl rfl (by omega)) rfl rfl rfl ?_ | refine EL_val (R_eql_f rfl rfl (by omega)) rfl rfl rfl ?_ | refine EL_not rfl rfl rfl ?_
        first | refine EL_val (R_pick_t rfl rfl) rfl rfl rfl ?_ | refine EL_val (R_pick_f rfl rfl) rfl rfl rfl ?_
        refine EL_val (R_move rfl) rfl rfl rfl ?_
        first | refine EL_val (R_move rfl) rfl rfl rfl ?_ | refine EL_not rfl rfl rfl ?_
        first | refine EL_val (R_eql_t rfl rfl ((by rw [hopn1]; rfl))) rfl rfl rfl ?_ | refine EL_val (R_eql_f rfl rfl ((by rw [hopn1]; rfl))) rfl rfl rfl ?_ | refine EL_not rfl rfl rfl ?_
        first | refine EL_val (R_pick_t rfl rfl) rfl rfl rfl ?_ | refine EL_val (R_pick_f rfl rfl) rfl rfl rfl ?_
        refine EL_val (R_move rfl) rfl rfl rfl ?_
        first | refine EL_val (R_move rfl) rfl rfl rfl ?_ | refine EL_not rfl rfl rfl ?_
        first | refine EL_val (R_move rfl) rfl rfl rfl ?_ | refine EL_not rfl rfl rfl ?_
        first | refine EL_val (R_eql_t rfl rfl (by omega)) rfl rfl rfl ?_ | refine EL_val (R_eql_f rfl rfl (by omega)) rfl rfl rfl ?_ | refine EL_not rfl rfl rfl ?_
        first | refine EL_val (R_pick_t rfl rfl) rfl rfl rfl ?_ | refine EL_val (R_pick_f rfl rfl) rfl rfl rfl ?_
        refine EL_val (R_move rfl) rfl rfl rfl ?_
        first | refine EL_val (R_move rfl) rfl rfl rfl ?_ | refine EL_not rfl rfl rfl ?_
        first | refine EL_val (R_move rfl) rfl rfl rfl ?_ | refine EL_not rfl rfl rfl ?_
        first | refine EL_val (R_eql_t rfl rfl (by omega)) rfl rfl rfl ?_ | refine EL_val (R_eql_f rfl rfl (by omega)) rfl rfl rfl ?_ | refine EL_not rfl rfl rfl ?_
        first | refine EL_val (R_pick_t rfl rfl) rfl rfl rfl ?_ | refine EL_val (R_pick_f rfl rfl) rfl rfl rfl ?_
        refine EL_val (R_assign rfl) rfl rfl rfl ?_
        refine EL_nil ?_
        refine E_ret ?_
        refine ret1 (.inr rfl) rfl rfl ?_
        exact ⟨rfl, TM.no_of (((hm15.trans hno57).trans hno710).trans hn11.mods) ((((hm12.jt).trans (TM.of_no hm13)).trans (TM.of_no hm14)).trans (TM.of_no hm15')) (by omega)⟩
      | some p =>
        obtain ⟨a, s⟩ := p
        obtain ⟨_, hok, _⟩ := getHeadS_length hgt
        have hok' : (0 ≤ a ∧ a ≤ 39) ∧ 1 ≤ s ∧ s ≤ 1073741824 := by simpa [headOk] using hok
        obtain ⟨a0, rfl⟩ : ∃ a0 : Nat, a = (a0 : Int) := ⟨a.toNat, by omega⟩
        have hg1 : getHeadS (nowS S1 1) = some ((a0 : Int), s) := by rw [hnow1]; exact hgt
        refine Ret.enter Try.func4 rfl Try.ntmps4 rfl ?_
        simp only [argEnv, Nat.reduceAdd]
        refine E_seqR ?_
        refine EL_val (R_assign rfl) rfl rfl rfl ?_
        refine EL_nil ?_
        refine E_seqR ?_
        refine EL_val (R_move rfl) rfl rfl rfl ?_
        refine EL_step rfl ?_
        refine EO_call K.bd12 rfl rfl (new_ok (B := B) (by omega) (by omega) (by omega)) ?_
        rintro _ w1 ⟨d, rfl, hD1, hm1⟩
        refine EL_val (R_move rfl) rfl rfl rfl ?_
        refine EL_val (R_extract rfl rfl) rfl rfl rfl ?_
        refine EL_val (R_extract rfl rfl) rfl rfl rfl ?_
        refine EL_val (R_assign rfl) rfl rfl rfl ?_
        refine EL_val (R_assign rfl) rfl rfl rfl ?_
        refine EL_nil ?_
        refine E_seqR ?_
        refine EL_val (R_assign rfl) rfl rfl rfl ?_
        refine EL_nil ?_
        refine E_seqR ?_
        refine EL_val (R_move rfl) rfl rfl rfl ?_
        refine EL_step rfl ?_
        refine EO_call K.bd11 rfl rfl (read_nil) ?_
        rintro _ _ ⟨rfl, rfl⟩
        refine EL_val (R_move rfl) rfl rfl rfl ?_
        refine EL_val (R_extract rfl rfl) rfl rfl rfl ?_
        refine EL_val (R_extract rfl rfl) rfl rfl rfl ?_
        refine EL_val (R_assign rfl) rfl rfl rfl ?_
        refine EL_val (R_assign rfl) rfl rfl rfl ?_
        refine EL_nil ?_
        refine E_seq ?_
        refine E_seqR ?_
        refine EL_val (R_move rfl) rfl rfl rfl ?_
        first | refine EL_val (R_neq_t rfl rfl (by omega)) rfl rfl rfl ?_ | refine EL_val (R_neq_f rfl rfl (by omega)) rfl rfl rfl ?_
        refine EL_val (R_move rfl) rfl rfl rfl ?_
        first | refine EL_val (R_move rfl) rfl rfl rfl ?_ | refine EL_not rfl rfl rfl ?_
        first | refine EL_val (R_move rfl) rfl rfl rfl ?_ | refine EL_not rfl rfl rfl ?_
        refine EL_step rfl ?_
        refine EO_call K.bd8 rfl rfl (commit_nil) ?_
        rintro _ w2 ⟨rfl, hm2⟩
        first | refine EL_val (R_move rfl) rfl rfl rfl ?_ | refine EL_not rfl rfl rfl ?_
        first | refine EL_val (R_neq_t rfl rfl (by omega)) rfl rfl rfl ?_ | refine EL_val (R_neq_f rfl rfl (by omega)) rfl rfl rfl ?_ | refine EL_not rfl rfl rfl ?_
        first | refine EL_val (R_pick_t rfl rfl) rfl rfl rfl ?_ | refine EL_val (R_pick_f rfl rfl) rfl rfl rfl ?_
        refine EL_val (R_move rfl) rfl rfl rfl ?_
        first | refine EL_val (R_move rfl) rfl rfl rfl ?_ | refine EL_not rfl rfl rfl ?_
        refine EL_step rfl ?_
        refine EO_call K.bd13 rfl rfl (head_nil) ?_
        rintro _ w3 ⟨rfl, hm3⟩
        (have hD3 := (hD1.no hm2).no hm3)
        first | refine EL_val (R_build (cells := #[.int .i64 0, .int .i64 0]) K.zr46 K.pl46 rfl rfl) rfl rfl rfl ?_ | refine EL_not rfl rfl rfl ?_
        first | refine EL_val (R_neqAgg (b := true) rfl rfl (by rw [heads_eq]; simp)) rfl rfl rfl ?_ | refine EL_not rfl rfl rfl ?_
        first | refine EL_val (R_pick_t rfl rfl) rfl rfl rfl ?_ | refine EL_val (R_pick_f rfl rfl) rfl rfl rfl ?_
        refine EL_nil ?_
        refine E_cond_f rfl ?_
        refine E_skip ?_
        refine thenQ_n ?_
        refine E_seqR ?_
        refine EL_val (R_move rfl) rfl rfl rfl ?_
        refine EL_step rfl ?_
        refine EO_call K.bd14 rfl rfl (look_none hD3 ⟨rfl, rfl⟩ h64 hz0) ?_
        rintro _ w4 ⟨rfl, hm4⟩
        refine EL_val (R_move rfl) rfl rfl rfl ?_
        refine EL_val (R_extract rfl rfl) rfl rfl rfl ?_
        refine EL_val (R_extract rfl rfl) rfl rfl rfl ?_
        refine EL_val (R_assign rfl) rfl rfl rfl ?_
        refine EL_val (R_assign rfl) rfl rfl rfl ?_
        refine EL_nil ?_
        refine E_seqR ?_
        refine EL_val (R_move rfl) rfl rfl rfl ?_
        refine EL_step rfl ?_
        refine EO_call K.bd10 rfl rfl (openj_none (hD3.no hm4) ⟨rfl, rfl⟩ h64 hz0) ?_
        rintro _ w5 ⟨rfl, hm5⟩
        (have hD5 := (hD3.no hm4).no hm5; have hm15 := (((hm1.trans hm2).trans hm3).trans hm4).trans hm5; have hs5 := hm15.size)
        refine EL_val (R_move rfl) rfl rfl rfl ?_
        refine EL_val (R_extract rfl rfl) rfl rfl rfl ?_
        refine EL_val (R_extract rfl rfl) rfl rfl rfl ?_
        refine EL_val (R_assign rfl) rfl rfl rfl ?_
        refine EL_val (R_assign rfl) rfl rfl rfl ?_
        refine EL_nil ?_
        refine E_seq ?_
        refine E_seqR ?_
        refine EL_val (R_move rfl) rfl rfl rfl ?_
        first | refine EL_val (R_neq_t rfl rfl (by omega)) rfl rfl rfl ?_ | refine EL_val (R_neq_f rfl rfl (by omega)) rfl rfl rfl ?_
        refine EL_val (R_move rfl) rfl rfl rfl ?_
        first | refine EL_val (R_move rfl) rfl rfl rfl ?_ | refine EL_not rfl rfl rfl ?_
        first | refine EL_val (R_lss_t rfl rfl (by omega)) rfl rfl rfl ?_ | refine EL_val (R_lss_f rfl rfl (by omega)) rfl rfl rfl ?_ | refine EL_not rfl rfl rfl ?_
        first | refine EL_val (R_pick_t rfl rfl) rfl rfl rfl ?_ | refine EL_val (R_pick_f rfl rfl) rfl rfl rfl ?_
        refine EL_nil ?_
        refine E_cond_f rfl ?_
        refine E_skip ?_
        refine thenQ_n ?_
        refine E_seqR ?_
        refine EL_step rfl ?_
        refine EO_makeSlice 64 64 rfl rfl Try.underlying23 K.zr5 K.sz5 K.by5 (by first | rfl | omega) (by first | rfl | omega) (by omega) (by omega) (by omega) rfl ?_
        intro w6 hn6
        refine EL_val (R_assign rfl) rfl rfl rfl ?_
        refine EL_nil ?_
        refine E_seqR ?_
        refine EL_val (R_move rfl) rfl rfl rfl ?_
        refine EL_val (R_move rfl) rfl rfl rfl ?_
        refine EL_step rfl ?_
        refine EO_copy hn6.bk (hh.no (hm15.trans hn6.mods)) bval_one (by rw [size_madeCells]; omega) rfl rfl Try.underlying23 K.sz5 rfl ?_
        intro w7 hu7
        (have hob7 : OB B w7 (.slice (some ⟨w5.heap.size, 0, none⟩) 64 64) b := (by rw [hb]; exact ob_pad (OB.new hn6 (by omega) (by simp only [maxLen]; omega)) hn6.bk hu7); have hno57 : Mods No w5 w7 := hn6.mods.trans' hu7.mods (fun k hk e => by omega); have hD7 := hD5.no hno57; have hs6 := hn6.size; have hs7 := hu7.size; have hbs7 : BS w7 (some ⟨w5.heap.size, 0, none⟩) b := (by unfold OB at hob7; rw [hbl] at hob7; unfold BS; rw [hbl]; exact Src.own hob7))
        refine EL_nil ?_
        refine E_seqR ?_
        refine EL_val (R_move rfl) rfl rfl rfl ?_
        refine EL_step rfl ?_
        refine EO_call K.bd15 rfl rfl ((by have := refgethead_ok (c := 64) hbs7 (by omega) (by omega); unfold getHeadP at this; rw [hgt, hbl] at this; exact this)) ?_
        rintro _ w8 ⟨rfl, hm8⟩
        refine EL_val (R_move rfl) rfl rfl rfl ?_
        refine EL_val (R_extract rfl rfl) rfl rfl rfl ?_
        refine EL_val (R_extract rfl rfl) rfl rfl rfl ?_
        refine EL_step rfl ?_
        refine EO_alloc K.zr46 rfl ?_
        intro w9 hn9
        refine EL_step rfl ?_
        refine EO_storeWhole hn9.bk rfl rfl K.sz46 rfl rfl ?_
        intro w10 hu10
        (have hno710 : Mods No w7 w10 := (hm8.trans hn9.mods).trans' hu10.mods (fun k hk e => (by have := hm8.size; omega)); have hD10 := hD7.no hno710; have hob10 := hno710.own hob7 (fun _ _ h => h); have hs10 := hno710.size)
        refine EL_val (R_assign rfl) rfl rfl rfl ?_
        refine EL_nil ?_
        refine E_seqR ?_
        refine EL_val (R_move rfl) rfl rfl rfl ?_
        refine EL_val (R_move rfl) rfl rfl rfl ?_
        refine EL_val (R_build (cells := #[.int .i64 1, .slice (some ⟨w5.heap.size, 0, none⟩) 64 64]) K.zr35 K.pl35 rfl rfl) rfl rfl rfl ?_
        refine EL_step rfl ?_
        refine EO_buildSlice Try.underlying42 K.zr35 K.sz35 rfl rfl rfl (fill_whole rfl (by rw [size_madeCells])) rfl ?_
        intro w11 hn11
        (have hob11 := hn11.mods.own hob10 (fun _ _ h => h); have hD11 := hD10.no hn11.mods; have hs11 := hn11.size; have hw11 : Writes B w11 (some ⟨w10.heap.size, 0, none⟩) [((1 : Int), b)] := (by refine writes_one (c := 64) (base := B) (A := some ⟨w5.heap.size, 0, none⟩) ?_ ?_; rw [hbl]; exact hn11.bk; rw [hbl]; exact hob11))
        refine EL_step rfl ?_
        refine EO_call K.bd16 rfl rfl ((by have := put_on hD11 ⟨rfl, rfl⟩ (by omega) hw11 1 hgood (fun i hi => by simp [newS]); rw [← hS1] at this; exact this)) ?_
        rintro _ w12 ⟨rfl, hD12, hm12⟩
        (have hs12 := hm12.size)
        refine EL_nil ?_
        refine E_seqR ?_
        refine EL_val (R_move rfl) rfl rfl rfl ?_
        refine EL_step rfl ?_
        refine EO_call K.bd14 rfl rfl (look_some hD12 hS1f (by omega) hg1) ?_
        rintro _ w13 ⟨⟨gb, cb, xb, rfl, _, _⟩, hm13⟩
        (have hs13 := hm13.size)
        refine EL_val (R_move rfl) rfl rfl rfl ?_
        refine EL_val (R_extract rfl rfl) rfl rfl rfl ?_
        refine EL_val (R_extract rfl rfl) rfl rfl rfl ?_
        refine EL_val (R_assign rfl) rfl rfl rfl ?_
        refine EL_val (R_assign rfl) rfl rfl rfl ?_
        refine EL_nil ?_
        refine E_seqR ?_
        refine EL_val (R_move rfl) rfl rfl rfl ?_
        refine EL_step rfl ?_
        refine EO_call K.bd17 rfl rfl (openn_on (hD12.no hm13) (i := 1) (by omega)) ?_
        rintro _ _ ⟨rfl, rfl⟩
        refine EL_val (R_assign rfl) rfl rfl rfl ?_
        refine EL_nil ?_
        refine E_seqR ?_
        refine EL_val (R_move rfl) rfl rfl rfl ?_
        refine EL_step rfl ?_
        refine EO_call K.bd10 rfl rfl (openj_some (hD12.no hm13) hS1f (by omega) (by omega) (fun i hi => hfew i (by omega)) hg1) ?_
        rintro _ w14 ⟨j, rfl, _, _, hm14⟩
        refine EL_val (R_move rfl) rfl rfl rfl ?_
        refine EL_val (R_extract rfl rfl) rfl rfl rfl ?_
        refine EL_val (R_extract rfl rfl) rfl rfl rfl ?_
        refine EL_val (R_assign rfl) rfl rfl rfl ?_
        refine EL_val (R_assign rfl) rfl rfl rfl ?_
        refine EL_nil ?_
        refine E_seqR ?_
        refine EL_step rfl ?_
        refine EO_call K.bd7 rfl rfl (awake16_ok) ?_
        rintro _ w15 ⟨rfl, hm15'⟩
        refine EL_val (R_move rfl) rfl rfl rfl ?_
        first | refine EL_val (R_move rfl) rfl rfl rfl ?_ | refine EL_not rfl rfl rfl ?_
        first | refine EL_val (R_eql_t rfl rfl (by omega)) rfl rfl rfl ?_ | refine EL_val (R_eql_f rfl rfl (by omega)) rfl rfl rfl ?_ | refine EL_not rfl rfl rfl ?_
        first | refine EL_val (R_pick_t rfl rfl) rfl rfl rfl ?_ | refine EL_val (R_pick_f rfl rfl) rfl rfl rfl ?_
        refine EL_val (R_move rfl) rfl rfl rfl ?_
        first | refine EL_val (R_move rfl) rfl rfl rfl ?_ | refine EL_not rfl rfl rfl ?_
        first | refine EL_val (R_move rfl) rfl rfl rfl ?_ | refine EL_not rfl rfl rfl ?_
        first | refine EL_val (R_eql_t rfl rfl (by omega)) rfl rfl rfl ?_ | refine EL_val (R_eql_f rfl rfl (by omega)) rfl rfl rfl ?_ | refine EL_not rfl rfl rfl ?_
        first | refine EL_val (R_pick_t rfl rfl) rfl rfl rfl ?_ | refine EL_val (R_pick_f rfl rfl) rfl rfl rfl ?_
        refine EL_val (R_move rfl) rfl rfl rfl ?_
        first | refine EL_val (R_move rfl) rfl rfl rfl ?_ | refine EL_not rfl rfl rfl ?_
        first | refine EL_val (R_eql_t rfl rfl ((by rw [hopn1]; rfl))) rfl rfl rfl ?_ | refine EL_val (R_eql_f rfl rfl ((by rw [hopn1]; rfl))) rfl rfl rfl ?_ | refine EL_not rfl rfl rfl ?_
        first | refine EL_val (R_pick_t rfl rfl) rfl rfl rfl ?_ | refine EL_val (R_pick_f rfl rfl) rfl rfl rfl ?_
        refine EL_val (R_move rfl) rfl rfl rfl ?_
        first | refine EL_val (R_move rfl) rfl rfl rfl ?_ | refine EL_not rfl rfl rfl ?_
        first | refine EL_val (R_move rfl) rfl rfl rfl ?_ | refine EL_not rfl rfl rfl ?_
        first | refine EL_val (R_eql_t rfl rfl (by omega)) rfl rfl rfl ?_ | refine EL_val (R_eql_f rfl rfl (by omega)) rfl rfl rfl ?_ | refine EL_not rfl rfl rfl ?_
        first | refine EL_val (R_pick_t rfl rfl) rfl rfl rfl ?_ | refine EL_val (R_pick_f rfl rfl) rfl rfl rfl ?_
        refine EL_val (R_move rfl) rfl rfl rfl ?_
        first | refine EL_val (R_move rfl) rfl rfl rfl ?_ | refine EL_not rfl rfl rfl ?_
        first | refine EL_val (R_move rfl) rfl rfl rfl ?_ | refine EL_not rfl rfl rfl ?_
        first | refine EL_val (R_eql_t rfl rfl (by omega)) rfl rfl rfl ?_ | refine EL_val (R_eql_f rfl rfl (by omega)) rfl rfl rfl ?_ | refine EL_not rfl rfl rfl ?_
        first | refine EL_val (R_pick_t rfl rfl) rfl rfl rfl ?_ | refine EL_val (R_pick_f rfl rfl) rfl rfl rfl ?_
        refine EL_val (R_assign rfl) rfl rfl rfl ?_
        refine EL_nil ?_
        refine E_ret ?_
        refine ret1 (.inr rfl) rfl rfl ?_
        exact ⟨rfl, TM.no_of (((hm15.trans hno57).trans hno710).trans hn11.mods) ((((hm12.jt).trans (TM.of_no hm13)).trans hm14).trans (TM.of_no hm15')) (by omega)⟩
end Go.Proofs.Ytobhogdndfbniaa
