/- Lists trimmed, put one behind the other, apart; blocks found (packages tree, slices, drydockref11). -/
import Derived.Test.YtifmdcjncbbcgaaTreeI
import Derived.Test.YtifmdcjncbbcgaaZeros
set_option linter.unusedVariables false
set_option linter.unusedSimpArgs false
set_option maxRecDepth 100000
namespace Go.Proofs.Ytifmdcjncbbcgaa
open Go.EW Go.RowKit

def trimN (ks : List Int) : Nat → Nat
  | 0 => 0
  | n + 1 => if ks.getD n 0 = 0 then trimN ks n else n + 1
theorem trimN_le (ks : List Int) : ∀ n, trimN ks n ≤ n
  | 0 => Nat.le_refl _
  | n + 1 => by
    have := trimN_le ks n
    rw [trimN]
    split <;> omega
def trimS (ks : List Int) : List Int := ks.take (trimN ks ks.length)
theorem trim_ok {w : World} {A : Option Addr} {ks : List Int} {c : Nat} (hA : ∀ a, A = some a → a.spot = none) (hk : IS w A ks) (hc : ks.length ≤ c) (hl : ks.length ≤ 1000000) :
    Ret Try.prog 33 [.slice A ks.length c] w fun v w' => OI w.heap.size w' v (trimS ks) ∧ Mods No w w' := by
  refine Ret.enter Try.func33 rfl Try.ntmps33 rfl ?_
  simp only [argEnv, Nat.reduceAdd]
  refine E_seqR ?_
  refine EL_val (R_assign rfl) rfl rfl rfl ?_
  refine EL_nil ?_
  refine E_seq ?_
  refine E_cut (fun e0 w' => e0 = [(0, .slice (A) (trimN ks ks.length) c)] ∧ w' = w) ?_ ?_
  · refine E_block ?_
    refine E_loop (fun m' e' w' => m' ≤ ks.length ∧ trimN ks m' = trimN ks ks.length ∧ e' = [(0, .slice (A) (m') c)] ∧ w' = w) ks.length [(0, .slice (A) (ks.length) c)] ⟨rfl, trivial⟩ ⟨Nat.le_refl _, rfl, rfl, rfl⟩ ?_
    rintro m' e w2 ⟨hi, htr, rfl, rfl⟩
    by_cases h0 : 0 < m'
    · obtain ⟨q, rfl⟩ : ∃ q, m' = q + 1 := ⟨m' - 1, by omega⟩
      have hlt : q < ks.length := by omega
      obtain ⟨g, o, rfl, hcell⟩ := hk.cell hlt
      have hgd : ks.getD q 0 = ks[q] := by rw [List.getD_eq_getElem?_getD, List.getElem?_eq_getElem hlt]; rfl
      by_cases hz : ks[q] = 0
      · refine E_seq ?_
        refine E_seqR ?_
        refine EL_val (R_move rfl) rfl rfl rfl ?_
        refine EL_val (R_lenSlice rfl Try.underlying22) rfl rfl rfl ?_
        first | refine EL_val (R_gtr_t rfl rfl (by omega)) rfl rfl rfl ?_ | refine EL_val (R_gtr_f rfl rfl (by omega)) rfl rfl rfl ?_
        refine EL_val (R_move rfl) rfl rfl rfl ?_
        first | refine EL_val (R_move rfl) rfl rfl rfl ?_ | refine EL_not rfl rfl rfl ?_
        first | refine EL_val (R_move rfl) rfl rfl rfl ?_ | refine EL_not rfl rfl rfl ?_
        first | refine EL_val (R_lenSlice rfl Try.underlying22) rfl rfl rfl ?_ | refine EL_not rfl rfl rfl ?_
        first | refine EL_val (R_subE ((q : Int)) rfl rfl (by omega) (by omega) (by omega)) rfl rfl rfl ?_ | refine EL_not rfl rfl rfl ?_
        first | refine EL_val (R_indexAddr rfl rfl Try.underlying22 K.sz3 (m := q) rfl (by omega)) rfl rfl rfl ?_ | refine EL_not rfl rfl rfl ?_
        first | refine EL_val (R_load rfl K.ag3 ((by rw [Nat.mul_one]; exact hcell))) rfl rfl rfl ?_ | refine EL_not rfl rfl rfl ?_
        first | refine EL_val (R_eql_t rfl rfl (by omega)) rfl rfl rfl ?_ | refine EL_val (R_eql_f rfl rfl (by omega)) rfl rfl rfl ?_ | refine EL_not rfl rfl rfl ?_
        first | refine EL_val (R_pick_t rfl rfl) rfl rfl rfl ?_ | refine EL_val (R_pick_f rfl rfl) rfl rfl rfl ?_
        refine EL_nil ?_
        refine E_cond_t rfl ?_
        refine E_skip ?_
        refine thenQ_n ?_
        refine E_block ?_
        refine E_region ?_
        refine EL_val (R_move rfl) rfl rfl rfl ?_
        refine EL_val (R_move rfl) rfl rfl rfl ?_
        refine EL_val (R_lenSlice rfl Try.underlying22) rfl rfl rfl ?_
        refine EL_val (R_subE ((q : Int)) rfl rfl (by omega) (by omega) (by omega)) rfl rfl rfl ?_
        refine EL_val (R_sliceH (q) (by omega) (by omega) rfl rfl Try.underlying22 K.sz3 (by first | (rintro _ ⟨⟩ <;> rfl) | assumption)) rfl rfl rfl ?_
        refine EL_val (R_assign rfl) rfl rfl rfl ?_
        refine EL_nil ?_
        refine inB_n ?_
        refine thenQ_n ?_
        refine ⟨rfl, q, [(0, .slice (some ⟨g, o, none⟩) (q) c)], by omega, ⟨rfl, trivial⟩, by omega, ?_, rfl, rfl⟩
        rw [← htr, trimN, hgd, if_pos hz]
      · refine E_seq ?_
        refine E_seqR ?_
        refine EL_val (R_move rfl) rfl rfl rfl ?_
        refine EL_val (R_lenSlice rfl Try.underlying22) rfl rfl rfl ?_
        first | refine EL_val (R_gtr_t rfl rfl (by omega)) rfl rfl rfl ?_ | refine EL_val (R_gtr_f rfl rfl (by omega)) rfl rfl rfl ?_
        refine EL_val (R_move rfl) rfl rfl rfl ?_
        first | refine EL_val (R_move rfl) rfl rfl rfl ?_ | refine EL_not rfl rfl rfl ?_
        first | refine EL_val (R_move rfl) rfl rfl rfl ?_ | refine EL_not rfl rfl rfl ?_
        first | refine EL_val (R_lenSlice rfl Try.underlying22) rfl rfl rfl ?_ | refine EL_not rfl rfl rfl ?_
        first | refine EL_val (R_subE ((q : Int)) rfl rfl (by omega) (by omega) (by omega)) rfl rfl rfl ?_ | refine EL_not rfl rfl rfl ?_
        first | refine EL_val (R_indexAddr rfl rfl Try.underlying22 K.sz3 (m := q) rfl (by omega)) rfl rfl rfl ?_ | refine EL_not rfl rfl rfl ?_
        first | refine EL_val (R_load rfl K.ag3 ((by rw [Nat.mul_one]; exact hcell))) rfl rfl rfl ?_ | refine EL_not rfl rfl rfl ?_
        first | refine EL_val (R_eql_t rfl rfl (by omega)) rfl rfl rfl ?_ | refine EL_val (R_eql_f rfl rfl (by omega)) rfl rfl rfl ?_ | refine EL_not rfl rfl rfl ?_
        first | refine EL_val (R_pick_t rfl rfl) rfl rfl rfl ?_ | refine EL_val (R_pick_f rfl rfl) rfl rfl rfl ?_
        refine EL_nil ?_
        refine E_cond_f rfl ?_
        refine E_exit ?_
        refine thenQ_e ?_
        refine thenQ_e ?_
        refine inB_eq rfl ?_
        refine thenQ_n ?_
        rw [trimN, hgd, if_neg hz] at htr
        exact ⟨rfl, [(0, .slice (some ⟨g, o, none⟩) (trimN ks ks.length) c)], ⟨by rw [← htr]; rfl, trivial⟩, rfl, rfl⟩
    · have h00 : m' = 0 := by omega
      subst h00
      refine E_seq ?_
      refine E_seqR ?_
      refine EL_val (R_move rfl) rfl rfl rfl ?_
      refine EL_val (R_lenSlice rfl Try.underlying22) rfl rfl rfl ?_
      first | refine EL_val (R_gtr_t rfl rfl (by omega)) rfl rfl rfl ?_ | refine EL_val (R_gtr_f rfl rfl (by omega)) rfl rfl rfl ?_
      refine EL_val (R_move rfl) rfl rfl rfl ?_
      first | refine EL_val (R_move rfl) rfl rfl rfl ?_ | refine EL_not rfl rfl rfl ?_
      refine EL_not rfl rfl rfl ?_
      refine EL_not rfl rfl rfl ?_
      refine EL_not rfl rfl rfl ?_
      refine EL_not rfl rfl rfl ?_
      refine EL_not rfl rfl rfl ?_
      refine EL_not rfl rfl rfl ?_
      first | refine EL_val (R_pick_t rfl rfl) rfl rfl rfl ?_ | refine EL_val (R_pick_f rfl rfl) rfl rfl rfl ?_
      refine EL_nil ?_
      refine E_cond_f rfl ?_
      refine E_exit ?_
      refine thenQ_e ?_
      refine thenQ_e ?_
      refine inB_eq rfl ?_
      refine thenQ_n ?_
      exact ⟨rfl, [(0, .slice (A) (trimN ks ks.length) c)], ⟨by rw [← htr]; rfl, trivial⟩, rfl, rfl⟩
  rintro e0 w1 ⟨rfl, rfl⟩
  have hle := trimN_le ks ks.length
  have hcl := clone_ok (c := c) (hk.take (trimN ks ks.length)) (by simp; omega)
  rw [List.length_take, Nat.min_eq_left hle] at hcl

  refine E_seqR ?_
  refine EL_val (R_move rfl) rfl rfl rfl ?_
  refine EL_step rfl ?_
  refine EO_call K.bd31 rfl rfl (hcl) ?_
  rintro _ w2 ⟨ho, hm⟩
  refine EL_val (R_assign rfl) rfl rfl rfl ?_
  refine EL_nil ?_
  refine E_ret ?_
  refine ret1 (.inr rfl) rfl rfl ?_
  exact ⟨ho, hm⟩
theorem rtrim_ok {w : World} {A : Option Addr} {ks : List Int} {c : Nat} (hA : ∀ a, A = some a → a.spot = none) (hk : IS w A ks) (hc : ks.length ≤ c) (hl : ks.length ≤ 1000000) :
    Ret Try.prog 17 [.slice A ks.length c] w fun v w' => OI w.heap.size w' v (trimS ks) ∧ Mods No w w' := by
  refine Ret.enter Try.func17 rfl Try.ntmps17 rfl ?_
  simp only [argEnv, Nat.reduceAdd]
  refine E_seqR ?_
  refine EL_val (R_assign rfl) rfl rfl rfl ?_
  refine EL_nil ?_
  refine E_seqR ?_
  refine EL_val (R_move rfl) rfl rfl rfl ?_
  refine EL_val (R_lenSlice rfl Try.underlying22) rfl rfl rfl ?_
  refine EL_val (R_assign rfl) rfl rfl rfl ?_
  refine EL_nil ?_
  refine E_seq ?_
  refine E_cut (fun e0 w' => e0 = [(0, .slice (A) ks.length c), (3, .int .i64 ((trimN ks ks.length : Nat) : Int))] ∧ w' = w) ?_ ?_
  · refine E_block ?_
    refine E_loop (fun m' e' w' => m' ≤ ks.length ∧ trimN ks m' = trimN ks ks.length ∧ e' = [(0, .slice (A) ks.length c), (3, .int .i64 ((m' : Nat) : Int))] ∧ w' = w) ks.length [(0, .slice (A) ks.length c), (3, .int .i64 ((ks.length : Nat) : Int))] ⟨rfl, rfl, trivial⟩ ⟨Nat.le_refl _, rfl, rfl, rfl⟩ ?_
    rintro m' e w2 ⟨hi, htr, rfl, rfl⟩
    by_cases h0 : 0 < m'
    · obtain ⟨q, rfl⟩ : ∃ q, m' = q + 1 := ⟨m' - 1, by omega⟩
      have hlt : q < ks.length := by omega
      obtain ⟨g, o, rfl, hcell⟩ := hk.cell hlt
      have hgd : ks.getD q 0 = ks[q] := by rw [List.getD_eq_getElem?_getD, List.getElem?_eq_getElem hlt]; rfl
      by_cases hz : ks[q] = 0
      · refine E_seq ?_
        refine E_seqR ?_
        refine EL_val (R_move rfl) rfl rfl rfl ?_
        first | refine EL_val (R_gtr_t rfl rfl (by omega)) rfl rfl rfl ?_ | refine EL_val (R_gtr_f rfl rfl (by omega)) rfl rfl rfl ?_
        refine EL_val (R_move rfl) rfl rfl rfl ?_
        first | refine EL_val (R_move rfl) rfl rfl rfl ?_ | refine EL_not rfl rfl rfl ?_
        first | refine EL_val (R_move rfl) rfl rfl rfl ?_ | refine EL_not rfl rfl rfl ?_
        first | refine EL_val (R_subE ((q : Int)) rfl rfl (by omega) (by omega) (by omega)) rfl rfl rfl ?_ | refine EL_not rfl rfl rfl ?_
        first | refine EL_val (R_indexAddr rfl rfl Try.underlying22 K.sz3 (m := q) rfl (by omega)) rfl rfl rfl ?_ | refine EL_not rfl rfl rfl ?_
        first | refine EL_val (R_load rfl K.ag3 ((by rw [Nat.mul_one]; exact hcell))) rfl rfl rfl ?_ | refine EL_not rfl rfl rfl ?_
        first | refine EL_val (R_eql_t rfl rfl (by omega)) rfl rfl rfl ?_ | refine EL_val (R_eql_f rfl rfl (by omega)) rfl rfl rfl ?_ | refine EL_not rfl rfl rfl ?_
        first | refine EL_val (R_pick_t rfl rfl) rfl rfl rfl ?_ | refine EL_val (R_pick_f rfl rfl) rfl rfl rfl ?_
        refine EL_nil ?_
        refine E_cond_t rfl ?_
        refine E_skip ?_
        refine thenQ_n ?_
        refine E_block ?_
        refine E_region ?_
        refine EL_val (R_move rfl) rfl rfl rfl ?_
        refine EL_val (R_subE ((q : Int)) rfl rfl (by omega) (by omega) (by omega)) rfl rfl rfl ?_
        refine EL_val (R_assign rfl) rfl rfl rfl ?_
        refine EL_nil ?_
        refine inB_n ?_
        refine thenQ_n ?_
        refine ⟨rfl, q, [(0, .slice (some ⟨g, o, none⟩) ks.length c), (3, .int .i64 ((q : Nat) : Int))], by omega, ⟨rfl, rfl, trivial⟩, by omega, ?_, rfl, rfl⟩
        rw [← htr, trimN, hgd, if_pos hz]
      · refine E_seq ?_
        refine E_seqR ?_
        refine EL_val (R_move rfl) rfl rfl rfl ?_
        first | refine EL_val (R_gtr_t rfl rfl (by omega)) rfl rfl rfl ?_ | refine EL_val (R_gtr_f rfl rfl (by omega)) rfl rfl rfl ?_
        refine EL_val (R_move rfl) rfl rfl rfl ?_
        first | refine EL_val (R_move rfl) rfl rfl rfl ?_ | refine EL_not rfl rfl rfl ?_
        first | refine EL_val (R_move rfl) rfl rfl rfl ?_ | refine EL_not rfl rfl rfl ?_
        first | refine EL_val (R_subE ((q : Int)) rfl rfl (by omega) (by omega) (by omega)) rfl rfl rfl ?_ | refine EL_not rfl rfl rfl ?_
        first | refine EL_val (R_indexAddr rfl rfl Try.underlying22 K.sz3 (m := q) rfl (by omega)) rfl rfl rfl ?_ | refine EL_not rfl rfl rfl ?_
        first | refine EL_val (R_load rfl K.ag3 ((by rw [Nat.mul_one]; exact hcell))) rfl rfl rfl ?_ | refine EL_not rfl rfl rfl ?_
        first | refine EL_val (R_eql_t rfl rfl (by omega)) rfl rfl rfl ?_ | refine EL_val (R_eql_f rfl rfl (by omega)) rfl rfl rfl ?_ | refine EL_not rfl rfl rfl ?_
        first | refine EL_val (R_pick_t rfl rfl) rfl rfl rfl ?_ | refine EL_val (R_pick_f rfl rfl) rfl rfl rfl ?_
        refine EL_nil ?_
        refine E_cond_f rfl ?_
        refine E_exit ?_
        refine thenQ_e ?_
        refine thenQ_e ?_
        refine inB_eq rfl ?_
        refine thenQ_n ?_
        rw [trimN, hgd, if_neg hz] at htr
        exact ⟨rfl, [(0, .slice (some ⟨g, o, none⟩) ks.length c), (3, .int .i64 ((trimN ks ks.length : Nat) : Int))], ⟨rfl, by rw [← htr]; rfl, trivial⟩, rfl, rfl⟩
    · have h00 : m' = 0 := by omega
      subst h00
      refine E_seq ?_
      refine E_seqR ?_
      refine EL_val (R_move rfl) rfl rfl rfl ?_
      first | refine EL_val (R_gtr_t rfl rfl (by omega)) rfl rfl rfl ?_ | refine EL_val (R_gtr_f rfl rfl (by omega)) rfl rfl rfl ?_
      refine EL_val (R_move rfl) rfl rfl rfl ?_
      refine EL_not rfl rfl rfl ?_
      refine EL_not rfl rfl rfl ?_
      refine EL_not rfl rfl rfl ?_
      refine EL_not rfl rfl rfl ?_
      refine EL_not rfl rfl rfl ?_
      refine EL_not rfl rfl rfl ?_
      first | refine EL_val (R_pick_t rfl rfl) rfl rfl rfl ?_ | refine EL_val (R_pick_f rfl rfl) rfl rfl rfl ?_
      refine EL_nil ?_
      refine E_cond_f rfl ?_
      refine E_exit ?_
      refine thenQ_e ?_
      refine thenQ_e ?_
      refine inB_eq rfl ?_
      refine thenQ_n ?_
      exact ⟨rfl, [(0, .slice (A) ks.length c), (3, .int .i64 ((trimN ks ks.length : Nat) : Int))], ⟨rfl, by rw [← htr]; rfl, trivial⟩, rfl, rfl⟩
  rintro e0 w1 ⟨rfl, rfl⟩
  have hle := trimN_le ks ks.length
  have htl : (trimS ks).length = trimN ks ks.length := by simp [trimS]; omega

  refine E_seqR ?_
  refine EL_step rfl ?_
  refine EO_buildSlice0 Try.underlying22 K.sz3 rfl ?_
  intro w2 hn2
  refine EL_val (R_move rfl) rfl rfl rfl ?_
  refine EL_val (R_move rfl) rfl rfl rfl ?_
  refine EL_val (R_sliceH (trimN ks ks.length) (by omega) (by omega) rfl rfl Try.underlying22 K.sz3 (by first | (rintro _ ⟨⟩ <;> rfl) | assumption)) rfl rfl rfl ?_
  refine EL_step rfl ?_
  refine EO_append rfl rfl Try.underlying22 K.sz3 K.zr3 K.by3 rfl (by decide) (hn2.own0 (m := 0) rfl (Nat.le_refl _) (by simp only [maxLen]; omega)) (by have := (hk.no hn2.mods).take (trimN ks ks.length); unfold IS at this; rw [List.length_take, Nat.min_eq_left hle] at this; exact this) ival_one (by simp only [maxLen]; omega) (by omega) (by have := hn2.size; omega) rfl ?_
  intro v3 w3 ho3 hm3 hat3
  refine EL_val (R_assign rfl) rfl rfl rfl ?_
  refine EL_nil ?_
  refine E_ret ?_
  refine ret1 (.inr rfl) rfl rfl ?_
  refine ⟨?_, own_newer (w0 := w1) (hn2.own0 (m := 0) (size := 1) rfl (Nat.le_refl _) (by simp only [maxLen]; omega)) hn2.mods hm3⟩
  unfold OI
  rw [htl]
  simpa [ival, trimS] using ho3
/-! ### lists put one behind the other -/
theorem grow_ok {w : World} {k : Nat} (hk : k ≤ 1000000) :
    Ret Try.prog 58 [.slice none 0 0, .int .i64 (k : Int)] w fun v w' => OI w.heap.size w' v [] ∧ Mods No w w' := by
  by_cases h0 : 0 < k
  · refine Ret.enter Try.func58 rfl Try.ntmps58 rfl ?_
    simp only [argEnv, Nat.reduceAdd]
    refine E_seqR ?_
    refine EL_val (R_assign rfl) rfl rfl rfl ?_
    refine EL_nil ?_
    refine E_seq ?_
    refine E_seqR ?_
    refine EL_val (R_move rfl) rfl rfl rfl ?_
    first | refine EL_val (R_lss_t rfl rfl (by omega)) rfl rfl rfl ?_ | refine EL_val (R_lss_f rfl rfl (by omega)) rfl rfl rfl ?_
    refine EL_nil ?_
    refine E_cond_f rfl ?_
    refine E_skip ?_
    refine thenQ_n ?_
    refine E_seq ?_
    refine E_seqR ?_
    refine EL_val (R_move rfl) rfl rfl rfl ?_
    refine EL_val (R_move rfl) rfl rfl rfl ?_
    refine EL_val (R_capSlice rfl Try.underlying22) rfl rfl rfl ?_
    refine EL_val (R_move rfl) rfl rfl rfl ?_
    refine EL_val (R_lenSlice rfl Try.underlying22) rfl rfl rfl ?_
    refine EL_val (R_subE (0) rfl rfl (by omega) (by omega) (by omega)) rfl rfl rfl ?_
    refine EL_val (R_subE ((k : Int)) rfl rfl (by omega) (by omega) (by omega)) rfl rfl rfl ?_
    refine EL_val (R_assign rfl) rfl rfl rfl ?_
    refine EL_nil ?_
    refine E_seqR ?_
    refine EL_val (R_move rfl) rfl rfl rfl ?_
    first | refine EL_val (R_gtr_t rfl rfl (by omega)) rfl rfl rfl ?_ | refine EL_val (R_gtr_f rfl rfl (by omega)) rfl rfl rfl ?_
    refine EL_nil ?_
    refine E_cond_t rfl ?_
    refine E_region ?_
    refine EL_val (R_move rfl) rfl rfl rfl ?_
    refine EL_val (R_move rfl) rfl rfl rfl ?_
    refine EL_val (R_capSlice rfl Try.underlying22) rfl rfl rfl ?_
    refine EL_val (R_sliceH (0) (by omega) (by omega) rfl rfl Try.underlying22 K.sz3 (by first | (rintro _ ⟨⟩ <;> rfl) | assumption)) rfl rfl rfl ?_
    refine EL_val (R_move rfl) rfl rfl rfl ?_
    refine EL_step rfl ?_
    refine EO_appendZeros (World.ownsRow_nil _ _ _ _) rfl (by omega) (Nat.le_refl _) rfl rfl Try.underlying22 Try.underlying3 K.sz3 K.zr3 K.by3 rfl ?_
    intro v2 w2 ho2 hm2
    (obtain ⟨A2, c2, rfl, hc2, hA2⟩ := own_sl ho2)
    refine EL_val (R_move rfl) rfl rfl rfl ?_
    refine EL_val (R_lenSlice rfl Try.underlying22) rfl rfl rfl ?_
    refine EL_val (R_sliceH (0) (by omega) (by omega) rfl rfl Try.underlying22 K.sz3 (by first | (rintro _ ⟨⟩ <;> rfl) | assumption)) rfl rfl rfl ?_
    refine EL_val (R_assign rfl) rfl rfl rfl ?_
    refine EL_nil ?_
    refine thenQ_n ?_
    refine E_seqR ?_
    refine EL_val (R_move rfl) rfl rfl rfl ?_
    refine EL_val (R_assign rfl) rfl rfl rfl ?_
    refine EL_nil ?_
    refine E_ret ?_
    refine ret1 (.inr rfl) rfl rfl ?_
    refine ⟨?_, hm2.mono fun i _ h => by cases h⟩
    obtain ⟨g, cap, cur, hv, hb, hg, h1, h2, h3, h4⟩ := own_form ho2 (by omega)
    injection hv with e1 e2 e3
    subst e1; subst e3
    exact ⟨rfl, .inr ⟨g, _, cur, rfl, hb, hg, Nat.zero_le _, h2, h3, by simp [ival]⟩⟩
  · have : k = 0 := by omega
    subst this
    refine Ret.enter Try.func58 rfl Try.ntmps58 rfl ?_
    simp only [argEnv, Nat.reduceAdd]
    refine E_seqR ?_
    refine EL_val (R_assign rfl) rfl rfl rfl ?_
    refine EL_nil ?_
    refine E_seq ?_
    refine E_seqR ?_
    refine EL_val (R_move rfl) rfl rfl rfl ?_
    first | refine EL_val (R_lss_t rfl rfl (by omega)) rfl rfl rfl ?_ | refine EL_val (R_lss_f rfl rfl (by omega)) rfl rfl rfl ?_
    refine EL_nil ?_
    refine E_cond_f rfl ?_
    refine E_skip ?_
    refine thenQ_n ?_
    refine E_seq ?_
    refine E_seqR ?_
    refine EL_val (R_move rfl) rfl rfl rfl ?_
    refine EL_val (R_move rfl) rfl rfl rfl ?_
    refine EL_val (R_capSlice rfl Try.underlying22) rfl rfl rfl ?_
    refine EL_val (R_move rfl) rfl rfl rfl ?_
    refine EL_val (R_lenSlice rfl Try.underlying22) rfl rfl rfl ?_
    refine EL_val (R_subE (0) rfl rfl (by omega) (by omega) (by omega)) rfl rfl rfl ?_
    refine EL_val (R_subE (0) rfl rfl (by omega) (by omega) (by omega)) rfl rfl rfl ?_
    refine EL_val (R_assign rfl) rfl rfl rfl ?_
    refine EL_nil ?_
    refine E_seqR ?_
    refine EL_val (R_move rfl) rfl rfl rfl ?_
    first | refine EL_val (R_gtr_t rfl rfl (by omega)) rfl rfl rfl ?_ | refine EL_val (R_gtr_f rfl rfl (by omega)) rfl rfl rfl ?_
    refine EL_nil ?_
    refine E_cond_f rfl ?_
    refine E_skip ?_
    refine thenQ_n ?_
    refine E_seqR ?_
    refine EL_val (R_move rfl) rfl rfl rfl ?_
    refine EL_val (R_assign rfl) rfl rfl rfl ?_
    refine EL_nil ?_
    refine E_ret ?_
    refine ret1 (.inr rfl) rfl rfl ?_
    exact ⟨OI.nil, Mods.refl _ _⟩
end Go.Proofs.Ytifmdcjncbbcgaa
