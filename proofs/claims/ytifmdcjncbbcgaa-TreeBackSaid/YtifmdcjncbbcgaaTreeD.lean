/- Pointers that are apart; the needs; fresh blocks (packages tree, drydockref11). -/
import Derived.Test.YtifmdcjncbbcgaaTreeC
set_option linter.unusedVariables false
set_option linter.unusedSimpArgs false
set_option maxRecDepth 100000
namespace Go.Proofs.Ytifmdcjncbbcgaa
open Go.EW Go.RowKit

def BoolT (t : TypeId) : Prop := t = 4
def Seen (w : World) (g : Nat) (l : List Int) : Prop := ∃ C, Bk w g C 4 ∧ C.size = 480 ∧ ∀ k : Nat, k < 480 → k ≠ 0 → C[k]? = some (.bool (decide ((k : Int) ∈ l)))
theorem apart_ok {w : World} {A : Option Addr} {ks : List Int} {c : Nat} (hk : IS w A ks) (hl : ks.length ≤ 9223372036854775807) :
    Ret Try.prog 20 [.slice A ks.length c] w fun v w' => v = .bool (decide (Good ks)) ∧ Mods No w w' := by
  obtain ⟨B, hB⟩ : ∃ B, B = w.heap.size := ⟨_, rfl⟩
  refine Ret.enter Try.func20 rfl Try.ntmps20 rfl ?_
  simp only [argEnv, Nat.reduceAdd]
  refine E_seqR ?_
  refine EL_val (R_assign rfl) rfl rfl rfl ?_
  refine EL_nil ?_
  refine E_seqR ?_
  refine EL_step rfl ?_
  refine EO_makeSlice 480 480 rfl rfl Try.underlying69 K.zr4 K.sz4 K.by4 (by first | rfl | omega) (by first | rfl | omega) (by omega) (by omega) (by omega) rfl ?_
  intro w1 hn1
  refine EL_val (R_assign rfl) rfl rfl rfl ?_
  refine EL_nil ?_
  refine E_seq ?_
  refine E_seqR ?_
  refine EL_val (R_assign rfl) rfl rfl rfl ?_
  refine EL_nil ?_
  refine E_block ?_
  have hseen : Seen w1 B [] := ⟨_, by have := hn1.bk; rw [← hB] at this; exact this, by rw [size_madeCells], fun k hk h0 => by
    rw [madeCells_at (by omega) (by decide)]
    show #[Value.bool false][k % 1]? = _
    rw [Nat.mod_one]; rfl⟩
  have hm1 := hn1.mods
  have hs1 := hn1.size
  rw [← hB] at hs1 ⊢
  clear hn1
  refine E_loop (fun m' e' w' => ∃ i, i ≤ ks.length ∧ m' = ks.length - i ∧ e' = [(0, .slice (A) ks.length c), (3, .slice (some ⟨B, 0, none⟩) 480 480), (4, .int .i64 ((i : Nat) : Int))] ∧ Seen w' B (ks.take i) ∧ GoodTo ks i ∧ Mods No w w') ks.length [(0, .slice (A) ks.length c), (3, .slice (some ⟨B, 0, none⟩) 480 480), (4, .int .i64 ((0 : Nat) : Int))] ⟨rfl, rfl, rfl, trivial⟩ ⟨0, by omega, by omega, rfl, hseen, fun j _ h => absurd h (by omega), hm1⟩ ?_
  clear hseen hm1 hs1
  rintro m' e w2 ⟨i, hi, rfl, rfl, hseen, hg, hm⟩
  by_cases hlt : i < ks.length
  · obtain ⟨g, o, rfl, hcell⟩ := (hk.no hm).cell hlt
    have htk : ks.take (i + 1) = ks.take i ++ [ks[i]] := by rw [List.take_succ_eq_append_getElem hlt]
    have hsz := hm.size
    obtain ⟨C, hC, hC4, hCa⟩ := hseen
    by_cases h0 : ks[i] = 0
    · have hh : ks[i] ≠ 0 → dataI ks[i] = true ∧ ks[i] ∉ ks.take i := fun h => absurd h0 h
      refine E_seq ?_
      refine E_seqR ?_
      refine EL_val (R_move rfl) rfl rfl rfl ?_
      refine EL_val (R_move rfl) rfl rfl rfl ?_
      refine EL_val (R_lenSlice rfl Try.underlying22) rfl rfl rfl ?_
      first | refine EL_val (R_lss_t rfl rfl (by omega)) rfl rfl rfl ?_ | refine EL_val (R_lss_f rfl rfl (by omega)) rfl rfl rfl ?_
      refine EL_nil ?_
      refine E_cond_t rfl ?_
      refine E_skip ?_
      refine thenQ_n ?_
      refine E_seq ?_
      refine E_block ?_
      refine E_seqR ?_
      refine EL_val (R_move rfl) rfl rfl rfl ?_
      refine EL_val (R_move rfl) rfl rfl rfl ?_
      refine EL_val (R_indexAddr rfl rfl Try.underlying22 K.sz3 (m := i) rfl hlt) rfl rfl rfl ?_
      refine EL_val (R_load rfl K.ag3 ((by rw [Nat.mul_one]; exact hcell))) rfl rfl rfl ?_
      refine EL_val (R_assign rfl) rfl rfl rfl ?_
      refine EL_nil ?_
      refine E_seq ?_
      refine E_seqR ?_
      refine EL_val (R_move rfl) rfl rfl rfl ?_
      first | refine EL_val (R_eql_t rfl rfl (by omega)) rfl rfl rfl ?_ | refine EL_val (R_eql_f rfl rfl (by omega)) rfl rfl rfl ?_
      refine EL_nil ?_
      refine E_cond_t rfl ?_
      refine E_exit ?_
      refine thenQ_e ?_
      refine inB_eq rfl ?_
      refine thenQ_n ?_
      refine E_region ?_
      refine EL_val (R_move rfl) rfl rfl rfl ?_
      first | refine EL_val (R_inc rfl (by omega)) rfl rfl rfl ?_ | refine EL_val (R_add_in rfl rfl (by omega) (by omega)) rfl rfl rfl ?_
      refine EL_val (R_assign rfl) rfl rfl rfl ?_
      refine EL_nil ?_
      refine thenQ_n ?_
      refine ⟨rfl, ks.length - (i + 1), [(0, .slice (some ⟨g, o, none⟩) ks.length c), (3, .slice (some ⟨B, 0, none⟩) 480 480), (4, .int .i64 ((i + 1 : Nat) : Int))], by omega, ⟨rfl, rfl, rfl, trivial⟩, i + 1, by omega, rfl, rfl, ⟨C, hC, hC4, fun k hk h0' => ?_⟩, hg.succ hlt hh, hm⟩
      rw [hCa k hk h0', htk]
      congr 2
      rw [decide_eq_decide]
      simp only [List.mem_append, List.mem_singleton, h0]
      exact ⟨.inl, fun h => h.elim id fun e => by omega⟩
    · by_cases hd : dataI ks[i] = true
      · have hda : ∀ w, Ret Try.prog 38 [.int .i64 ks[i]] w fun v w' => v = .bool true ∧ w = w' := fun w => by have := rdata_ok (w := w) (n := ks[i]); rwa [hd] at this
        have hd2 := dataI_iff.1 hd
        obtain ⟨q, hq⟩ : ∃ q : Nat, ks[i] = (q : Int) := ⟨ks[i].toNat, by omega⟩
        by_cases hin : ks[i] ∈ ks.take i
        · have hcq : C[0 + q * 1]? = some (.bool true) := by
            rw [Nat.zero_add, Nat.mul_one, hCa q (by omega) (by omega), ← hq, decide_eq_true hin]
          have hno : ¬ Good ks := fun h => (h i hlt h0).2 hin
          refine E_seq ?_
          refine E_seqR ?_
          refine EL_val (R_move rfl) rfl rfl rfl ?_
          refine EL_val (R_move rfl) rfl rfl rfl ?_
          refine EL_val (R_lenSlice rfl Try.underlying22) rfl rfl rfl ?_
          first | refine EL_val (R_lss_t rfl rfl (by omega)) rfl rfl rfl ?_ | refine EL_val (R_lss_f rfl rfl (by omega)) rfl rfl rfl ?_
          refine EL_nil ?_
          refine E_cond_t rfl ?_
          refine E_skip ?_
          refine thenQ_n ?_
          refine E_seq ?_
          refine E_block ?_
          refine E_seqR ?_
          refine EL_val (R_move rfl) rfl rfl rfl ?_
          refine EL_val (R_move rfl) rfl rfl rfl ?_
          refine EL_val (R_indexAddr rfl rfl Try.underlying22 K.sz3 (m := i) rfl hlt) rfl rfl rfl ?_
          refine EL_val (R_load rfl K.ag3 ((by rw [Nat.mul_one]; exact hcell))) rfl rfl rfl ?_
          refine EL_val (R_assign rfl) rfl rfl rfl ?_
          refine EL_nil ?_
          refine E_seq ?_
          refine E_seqR ?_
          refine EL_val (R_move rfl) rfl rfl rfl ?_
          first | refine EL_val (R_eql_t rfl rfl (by omega)) rfl rfl rfl ?_ | refine EL_val (R_eql_f rfl rfl (by omega)) rfl rfl rfl ?_
          refine EL_nil ?_
          refine E_cond_f rfl ?_
          refine E_skip ?_
          refine thenQ_n ?_
          refine E_seq ?_
          refine E_seqR ?_
          refine EL_val (R_move rfl) rfl rfl rfl ?_
          refine EL_step rfl ?_
          refine EO_call K.bd38 rfl rfl (hda _) ?_
          rintro _ _ ⟨rfl, rfl⟩
          refine EL_val (R_not rfl) rfl rfl rfl ?_
          refine EL_val (R_move rfl) rfl rfl rfl ?_
          first | refine EL_val (R_move rfl) rfl rfl rfl ?_ | refine EL_not rfl rfl rfl ?_
          first | refine EL_val (R_move rfl) rfl rfl rfl ?_ | refine EL_not rfl rfl rfl ?_
          first | refine EL_val (R_indexAddr rfl rfl Try.underlying69 K.sz4 (m := q) hq (by omega)) rfl rfl rfl ?_ | refine EL_not rfl rfl rfl ?_
          first | refine EL_val (R_load rfl K.ag4 (hC.cell hcq)) rfl rfl rfl ?_ | refine EL_not rfl rfl rfl ?_
          first | refine EL_val (R_pick_t rfl rfl) rfl rfl rfl ?_ | refine EL_val (R_pick_f rfl rfl) rfl rfl rfl ?_
          refine EL_nil ?_
          refine E_cond_t rfl ?_
          refine E_seqR ?_
          refine EL_val (R_assign rfl) rfl rfl rfl ?_
          refine EL_nil ?_
          refine E_ret ?_
          refine thenQ_r (inB_r (thenQ_r (thenQ_r (inB_r (thenQ_r ?_)))))
          refine ret1 (.inr rfl) rfl rfl ?_
          exact ⟨by rw [decide_eq_false hno], hm⟩
        · have hcq : C[0 + q * 1]? = some (.bool false) := by
            rw [Nat.zero_add, Nat.mul_one, hCa q (by omega) (by omega), ← hq, decide_eq_false hin]
          have hh : ks[i] ≠ 0 → dataI ks[i] = true ∧ ks[i] ∉ ks.take i := fun _ => ⟨hd, hin⟩
          refine E_seq ?_
          refine E_seqR ?_
          refine EL_val (R_move rfl) rfl rfl rfl ?_
          refine EL_val (R_move rfl) rfl rfl rfl ?_
          refine EL_val (R_lenSlice rfl Try.underlying22) rfl rfl rfl ?_
          first | refine EL_val (R_lss_t rfl rfl (by omega)) rfl rfl rfl ?_ | refine EL_val (R_lss_f rfl rfl (by omega)) rfl rfl rfl ?_
          refine EL_nil ?_
          refine E_cond_t rfl ?_
          refine E_skip ?_
          refine thenQ_n ?_
          refine E_seq ?_
          refine E_block ?_
          refine E_seqR ?_
          refine EL_val (R_move rfl) rfl rfl rfl ?_
          refine EL_val (R_move rfl) rfl rfl rfl ?_
          refine EL_val (R_indexAddr rfl rfl Try.underlying22 K.sz3 (m := i) rfl hlt) rfl rfl rfl ?_
          refine EL_val (R_load rfl K.ag3 ((by rw [Nat.mul_one]; exact hcell))) rfl rfl rfl ?_
          refine EL_val (R_assign rfl) rfl rfl rfl ?_
          refine EL_nil ?_
          refine E_seq ?_
          refine E_seqR ?_
          refine EL_val (R_move rfl) rfl rfl rfl ?_
          first | refine EL_val (R_eql_t rfl rfl (by omega)) rfl rfl rfl ?_ | refine EL_val (R_eql_f rfl rfl (by omega)) rfl rfl rfl ?_
          refine EL_nil ?_
          refine E_cond_f rfl ?_
          refine E_skip ?_
          refine thenQ_n ?_
          refine E_seq ?_
          refine E_seqR ?_
          refine EL_val (R_move rfl) rfl rfl rfl ?_
          refine EL_step rfl ?_
          refine EO_call K.bd38 rfl rfl (hda _) ?_
          rintro _ _ ⟨rfl, rfl⟩
          refine EL_val (R_not rfl) rfl rfl rfl ?_
          refine EL_val (R_move rfl) rfl rfl rfl ?_
          first | refine EL_val (R_move rfl) rfl rfl rfl ?_ | refine EL_not rfl rfl rfl ?_
          first | refine EL_val (R_move rfl) rfl rfl rfl ?_ | refine EL_not rfl rfl rfl ?_
          first | refine EL_val (R_indexAddr rfl rfl Try.underlying69 K.sz4 (m := q) hq (by omega)) rfl rfl rfl ?_ | refine EL_not rfl rfl rfl ?_
          first | refine EL_val (R_load rfl K.ag4 (hC.cell hcq)) rfl rfl rfl ?_ | refine EL_not rfl rfl rfl ?_
          first | refine EL_val (R_pick_t rfl rfl) rfl rfl rfl ?_ | refine EL_val (R_pick_f rfl rfl) rfl rfl rfl ?_
          refine EL_nil ?_
          refine E_cond_f rfl ?_
          refine E_skip ?_
          refine thenQ_n ?_
          refine E_region ?_
          refine EL_val (R_move rfl) rfl rfl rfl ?_
          refine EL_val (R_move rfl) rfl rfl rfl ?_
          refine EL_val (R_indexAddr rfl rfl Try.underlying69 K.sz4 (m := q) hq (by omega)) rfl rfl rfl ?_
          refine EL_step rfl ?_
          refine EO_store1 rfl rfl K.sz4 rfl hC (by omega) ?_
          intro w3 hu3
          refine EL_nil ?_
          refine inB_n ?_
          refine thenQ_n ?_
          refine E_region ?_
          refine EL_val (R_move rfl) rfl rfl rfl ?_
          first | refine EL_val (R_inc rfl (by omega)) rfl rfl rfl ?_ | refine EL_val (R_add_in rfl rfl (by omega) (by omega)) rfl rfl rfl ?_
          refine EL_val (R_assign rfl) rfl rfl rfl ?_
          refine EL_nil ?_
          refine thenQ_n ?_
          refine ⟨rfl, ks.length - (i + 1), [(0, .slice (some ⟨g, o, none⟩) ks.length c), (3, .slice (some ⟨B, 0, none⟩) 480 480), (4, .int .i64 ((i + 1 : Nat) : Int))], by omega, ⟨rfl, rfl, rfl, trivial⟩, i + 1, by omega, rfl, rfl, ⟨_, hu3.bk, by simpa using hC4, fun k hk h0' => ?_⟩, hg.succ hlt hh, hm.trans' hu3.mods fun k hk e => by omega⟩
          rw [Nat.zero_add, Nat.mul_one, htk]
          by_cases hkq : q = k
          · subst hkq
            rw [Array.getElem?_setIfInBounds_self_of_lt (by omega)]
            rw [decide_eq_true (by simp [hq])]
          · rw [Array.getElem?_setIfInBounds_ne hkq, hCa k hk h0']
            congr 2
            rw [decide_eq_decide]
            simp only [List.mem_append, List.mem_singleton]
            exact ⟨.inl, fun h => h.elim id fun e => by omega⟩
      · have hd' : dataI ks[i] = false := by simpa using hd
        have hno : ¬ Good ks := fun h => hd (h i hlt h0).1
        have hda : ∀ w, Ret Try.prog 38 [.int .i64 ks[i]] w fun v w' => v = .bool false ∧ w = w' := fun w => by have := rdata_ok (w := w) (n := ks[i]); rwa [hd'] at this
        refine E_seq ?_
        refine E_seqR ?_
        refine EL_val (R_move rfl) rfl rfl rfl ?_
        refine EL_val (R_move rfl) rfl rfl rfl ?_
        refine EL_val (R_lenSlice rfl Try.underlying22) rfl rfl rfl ?_
        first | refine EL_val (R_lss_t rfl rfl (by omega)) rfl rfl rfl ?_ | refine EL_val (R_lss_f rfl rfl (by omega)) rfl rfl rfl ?_
        refine EL_nil ?_
        refine E_cond_t rfl ?_
        refine E_skip ?_
        refine thenQ_n ?_
        refine E_seq ?_
        refine E_block ?_
        refine E_seqR ?_
        refine EL_val (R_move rfl) rfl rfl rfl ?_
        refine EL_val (R_move rfl) rfl rfl rfl ?_
        refine EL_val (R_indexAddr rfl rfl Try.underlying22 K.sz3 (m := i) rfl hlt) rfl rfl rfl ?_
        refine EL_val (R_load rfl K.ag3 ((by rw [Nat.mul_one]; exact hcell))) rfl rfl rfl ?_
        refine EL_val (R_assign rfl) rfl rfl rfl ?_
        refine EL_nil ?_
        refine E_seq ?_
        refine E_seqR ?_
        refine EL_val (R_move rfl) rfl rfl rfl ?_
        first | refine EL_val (R_eql_t rfl rfl (by omega)) rfl rfl rfl ?_ | refine EL_val (R_eql_f rfl rfl (by omega)) rfl rfl rfl ?_
        refine EL_nil ?_
        refine E_cond_f rfl ?_
        refine E_skip ?_
        refine thenQ_n ?_
        refine E_seq ?_
        refine E_seqR ?_
        refine EL_val (R_move rfl) rfl rfl rfl ?_
        refine EL_step rfl ?_
        refine EO_call K.bd38 rfl rfl (hda _) ?_
        rintro _ _ ⟨rfl, rfl⟩
        refine EL_val (R_not rfl) rfl rfl rfl ?_
        refine EL_val (R_move rfl) rfl rfl rfl ?_
        refine EL_not rfl rfl rfl ?_
        refine EL_not rfl rfl rfl ?_
        refine EL_not rfl rfl rfl ?_
        refine EL_not rfl rfl rfl ?_
        first | refine EL_val (R_pick_t rfl rfl) rfl rfl rfl ?_ | refine EL_val (R_pick_f rfl rfl) rfl rfl rfl ?_
        refine EL_nil ?_
        refine E_cond_t rfl ?_
        refine E_seqR ?_
        refine EL_val (R_assign rfl) rfl rfl rfl ?_
        refine EL_nil ?_
        refine E_ret ?_
        refine thenQ_r (inB_r (thenQ_r (thenQ_r (inB_r (thenQ_r ?_)))))
        refine ret1 (.inr rfl) rfl rfl ?_
        exact ⟨by rw [decide_eq_false hno], hm⟩
  · have hi' : i = ks.length := by omega
    subst hi'
    refine E_seq ?_
    refine E_seqR ?_
    refine EL_val (R_move rfl) rfl rfl rfl ?_
    refine EL_val (R_move rfl) rfl rfl rfl ?_
    refine EL_val (R_lenSlice rfl Try.underlying22) rfl rfl rfl ?_
    first | refine EL_val (R_lss_t rfl rfl (by omega)) rfl rfl rfl ?_ | refine EL_val (R_lss_f rfl rfl (by omega)) rfl rfl rfl ?_
    refine EL_nil ?_
    refine E_cond_f rfl ?_
    refine E_exit ?_
    refine thenQ_e ?_
    refine thenQ_e ?_
    refine inB_eq rfl ?_
    refine thenQ_n ?_
    refine E_seqR ?_
    refine EL_val (R_assign rfl) rfl rfl rfl ?_
    refine EL_nil ?_
    refine E_ret ?_
    refine ret1 (.inr rfl) rfl rfl ?_
    exact ⟨by rw [decide_eq_true (hg.all (Nat.le_refl _))], hm⟩
theorem rpointers_ok {w : World} {A : Option Addr} {ks : List Int} {c : Nat} (hk : IS w A ks) (hl : ks.length ≤ 9223372036854775807) :
    Ret Try.prog 8 [.slice A ks.length c] w fun v w' => v = .bool (ptrsB ks) ∧ Mods No w w' := by
  by_cases h : ks.length ≤ 96
  · refine Ret.enter Try.func8 rfl Try.ntmps8 rfl ?_
    simp only [argEnv, Nat.reduceAdd]
    refine E_seqR ?_
    refine EL_val (R_assign rfl) rfl rfl rfl ?_
    refine EL_nil ?_
    refine E_seqR ?_
    refine EL_val (R_move rfl) rfl rfl rfl ?_
    refine EL_val (R_lenSlice rfl Try.underlying22) rfl rfl rfl ?_
    first | refine EL_val (R_leq_t rfl rfl (by omega)) rfl rfl rfl ?_ | refine EL_val (R_leq_f rfl rfl (by omega)) rfl rfl rfl ?_
    refine EL_val (R_move rfl) rfl rfl rfl ?_
    first | refine EL_val (R_move rfl) rfl rfl rfl ?_ | refine EL_not rfl rfl rfl ?_
    refine EL_step rfl ?_
    refine EO_call K.bd20 rfl rfl (apart_ok hk hl) ?_
    rintro _ w1 ⟨rfl, hm⟩
    first | refine EL_val (R_pick_t rfl rfl) rfl rfl rfl ?_ | refine EL_val (R_pick_f rfl rfl) rfl rfl rfl ?_
    refine EL_val (R_assign rfl) rfl rfl rfl ?_
    refine EL_nil ?_
    refine E_ret ?_
    refine ret1 (.inr rfl) rfl rfl ?_
    exact ⟨by simp [ptrsB, h], hm⟩
  · refine Ret.enter Try.func8 rfl Try.ntmps8 rfl ?_
    simp only [argEnv, Nat.reduceAdd]
    refine E_seqR ?_
    refine EL_val (R_assign rfl) rfl rfl rfl ?_
    refine EL_nil ?_
    refine E_seqR ?_
    refine EL_val (R_move rfl) rfl rfl rfl ?_
    refine EL_val (R_lenSlice rfl Try.underlying22) rfl rfl rfl ?_
    first | refine EL_val (R_leq_t rfl rfl (by omega)) rfl rfl rfl ?_ | refine EL_val (R_leq_f rfl rfl (by omega)) rfl rfl rfl ?_
    refine EL_val (R_move rfl) rfl rfl rfl ?_
    first | refine EL_val (R_move rfl) rfl rfl rfl ?_ | refine EL_not rfl rfl rfl ?_
    refine EL_not rfl rfl rfl ?_
    first | refine EL_val (R_pick_t rfl rfl) rfl rfl rfl ?_ | refine EL_val (R_pick_f rfl rfl) rfl rfl rfl ?_
    refine EL_val (R_assign rfl) rfl rfl rfl ?_
    refine EL_nil ?_
    refine E_ret ?_
    refine ret1 (.inr rfl) rfl rfl ?_
    exact ⟨by simp [ptrsB, h], Mods.refl _ _⟩
/-! ### needs -/
def someS (ks : List Int) (a n : Nat) : Bool := (partS ks a n).any nzI
def cntS (ks : List Int) : Nat → Nat
  | 0 => 0
  | k + 1 => cntS ks k + (if someS ks (34 + 30 * k) 30 then 1 else 0)
def needS (ks : List Int) : Nat := (if someS ks 4 30 then 1 else 0) + (if 0 < cntS ks 3 then cntS ks 3 + 1 else 0)
theorem cntS_le (ks : List Int) : ∀ k, cntS ks k ≤ k
  | 0 => Nat.le_refl _
  | k + 1 => by have := cntS_le ks k; rw [cntS]; split <;> omega
theorem cntS_rest {ks : List Int} {k : Nat} (h : ks.length ≤ 34 + 30 * k) : ∀ d, cntS ks (k + d) = cntS ks k
  | 0 => rfl
  | d + 1 => by
    rw [show k + (d + 1) = (k + d) + 1 from rfl, cntS, cntS_rest h d, if_neg]
    · rfl
    · rw [someS, partS_none (by omega)]; simp
theorem rneed_ok {w : World} {A : Option Addr} {ks : List Int} {c : Nat} (hk : IS w A ks) (hl : ks.length ≤ 96) :
    Ret Try.prog 10 [.slice A ks.length c] w fun v w' => v = .int .i64 (needS ks : Int) ∧ Mods No w w' := by
  obtain ⟨n0, hn0⟩ : ∃ n0 : Nat, n0 = if someS ks 4 30 then 1 else 0 := ⟨_, rfl⟩
  have hp := fun {w' : World} (h : Mods No w w') (a : Nat) (ha : a ≤ 1000) => rpart_ok (c := c) (a := a) (n := 30) (hk.no h) (by omega) ha (by omega)
  refine Ret.enter Try.func10 rfl Try.ntmps10 rfl ?_
  simp only [argEnv, Nat.reduceAdd]
  refine E_seqR ?_
  refine EL_val (R_assign rfl) rfl rfl rfl ?_
  refine EL_nil ?_
  refine E_seqR ?_
  refine EL_val (R_assign rfl) rfl rfl rfl ?_
  refine EL_nil ?_
  refine E_seqR ?_
  refine EL_val (R_move rfl) rfl rfl rfl ?_
  refine EL_step rfl ?_
  refine EO_call K.bd21 rfl rfl (hp (a := 4) (Mods.refl _ _) (by omega)) ?_
  rintro _ w1 ⟨⟨u, rfl, hu⟩, hm1⟩
  refine EL_val (R_move rfl) rfl rfl rfl ?_
  refine EL_val (R_extract rfl rfl) rfl rfl rfl ?_
  refine EL_val (R_extract rfl rfl) rfl rfl rfl ?_
  refine EL_val (R_assign rfl) rfl rfl rfl ?_
  refine EL_val (R_assign rfl) rfl rfl rfl ?_
  refine EL_nil ?_
  refine E_seq ?_
  refine E_seqR ?_
  refine EL_val (R_move rfl) rfl rfl rfl ?_
  refine EL_nil ?_
  refine E_cut (fun e0 w' => e0 = [(0, .slice A ks.length c), (3, .int .i64 (n0 : Int))] ∧ Mods No w w') ?_ ?_
  · skip
    refine E_cond rfl (fun hb => ?_) (fun hb => ?_)
    · skip
      refine E_region ?_
      refine EL_val (R_move rfl) rfl rfl rfl ?_
      first | refine EL_val (R_inc rfl (by omega)) rfl rfl rfl ?_ | refine EL_val (R_add_in rfl rfl (by omega) (by omega)) rfl rfl rfl ?_
      refine EL_val (R_assign rfl) rfl rfl rfl ?_
      refine EL_nil ?_
      refine thenQ_n ?_
      exact ⟨rfl, [(0, .slice A ks.length c), (3, .int .i64 (n0 : Int))], ⟨rfl, by rw [hn0, if_pos (show someS ks 4 30 = true from hb)]; rfl, trivial⟩, rfl, hm1⟩
    · refine E_skip ?_
      refine thenQ_n ?_
      exact ⟨rfl, [(0, .slice A ks.length c), (3, .int .i64 (n0 : Int))], ⟨rfl, by rw [hn0, if_neg (by rw [show someS ks 4 30 = false from hb]; decide)]; rfl, trivial⟩, rfl, hm1⟩
  clear hm1 hu
  rintro e0 w1 ⟨rfl, hm1⟩

  refine E_seqR ?_
  refine EL_val (R_assign rfl) rfl rfl rfl ?_
  refine EL_nil ?_
  refine E_seq ?_
  refine E_seqR ?_
  refine EL_val (R_assign rfl) rfl rfl rfl ?_
  refine EL_nil ?_
  refine E_cut (fun e0 w' => e0 = [(0, .slice A ks.length c), (3, .int .i64 (n0 : Int)), (6, .int .i64 ((cntS ks 3 : Nat) : Int))] ∧ Mods No w w') ?_ ?_
  · refine E_block ?_
    refine E_loop (fun m' e' w' => ∃ k, k ≤ 3 ∧ m' = 3 - k ∧ e' = [(0, .slice A ks.length c), (3, .int .i64 (n0 : Int)), (6, .int .i64 ((cntS ks (k) : Nat) : Int)), (7, .int .i64 ((34 + 30 * (k) : Nat) : Int))] ∧ Mods No w w') 3 [(0, .slice A ks.length c), (3, .int .i64 (n0 : Int)), (6, .int .i64 ((cntS ks (0) : Nat) : Int)), (7, .int .i64 ((34 + 30 * (0) : Nat) : Int))] ⟨rfl, rfl, rfl, rfl, trivial⟩ ⟨0, by omega, by omega, rfl, hm1⟩ ?_
    clear hm1
    rintro m' e w2 ⟨k, hk3, rfl, rfl, hm2⟩
    by_cases hlt : k < 3
    · have hcl := cntS_le ks k
      cases hb : (partS ks (34 + 30 * k) 30).any nzI with
      | true =>
        have hp2 := hp hm2 (34 + 30 * k) (by omega)
        rw [hb] at hp2
        have hc1 : cntS ks (k + 1) = cntS ks k + 1 := by rw [cntS, if_pos (show someS ks _ 30 = true from hb)]
        refine E_seq ?_
        refine E_seqR ?_
        refine EL_val (R_move rfl) rfl rfl rfl ?_
        first | refine EL_val (R_lss_t rfl rfl (by omega)) rfl rfl rfl ?_ | refine EL_val (R_lss_f rfl rfl (by omega)) rfl rfl rfl ?_
        refine EL_nil ?_
        refine E_cond_t rfl ?_
        refine E_skip ?_
        refine thenQ_n ?_
        refine E_seq ?_
        refine E_block ?_
        refine E_seqR ?_
        refine EL_val (R_move rfl) rfl rfl rfl ?_
        refine EL_val (R_move rfl) rfl rfl rfl ?_
        refine EL_step rfl ?_
        refine EO_call K.bd21 rfl rfl (hp2) ?_
        rintro _ w3 ⟨⟨u, rfl, hu⟩, hm3⟩
        refine EL_val (R_move rfl) rfl rfl rfl ?_
        refine EL_val (R_extract rfl rfl) rfl rfl rfl ?_
        refine EL_val (R_extract rfl rfl) rfl rfl rfl ?_
        refine EL_val (R_assign rfl) rfl rfl rfl ?_
        refine EL_nil ?_
        refine E_seqR ?_
        refine EL_val (R_move rfl) rfl rfl rfl ?_
        refine EL_nil ?_
        refine E_cond_t rfl ?_
        refine E_region ?_
        refine EL_val (R_move rfl) rfl rfl rfl ?_
        refine EL_val (R_addE (((cntS ks (k + 1) : Nat) : Int)) rfl rfl (by omega) (by omega) (by omega)) rfl rfl rfl ?_
        refine EL_val (R_assign rfl) rfl rfl rfl ?_
        refine EL_nil ?_
        refine inB_n ?_
        refine thenQ_n ?_
        refine E_region ?_
        refine EL_val (R_move rfl) rfl rfl rfl ?_
        refine EL_val (R_addE (((34 + 30 * (k + 1) : Nat) : Int)) rfl rfl (by omega) (by omega) (by omega)) rfl rfl rfl ?_
        refine EL_val (R_assign rfl) rfl rfl rfl ?_
        refine EL_nil ?_
        refine thenQ_n ?_
        exact ⟨rfl, 3 - (k + 1), [(0, .slice A ks.length c), (3, .int .i64 (n0 : Int)), (6, .int .i64 ((cntS ks (k + 1) : Nat) : Int)), (7, .int .i64 ((34 + 30 * (k + 1) : Nat) : Int))], by omega, ⟨rfl, rfl, rfl, rfl, trivial⟩, k + 1, by omega, rfl, rfl, hm2.trans hm3⟩
      | false =>
        have hp2 := hp hm2 (34 + 30 * k) (by omega)
        rw [hb] at hp2
        have hc1 : cntS ks (k + 1) = cntS ks k := by rw [cntS, if_neg (by rw [show someS ks _ 30 = false from hb]; decide)]; rfl
        refine E_seq ?_
        refine E_seqR ?_
        refine EL_val (R_move rfl) rfl rfl rfl ?_
        first | refine EL_val (R_lss_t rfl rfl (by omega)) rfl rfl rfl ?_ | refine EL_val (R_lss_f rfl rfl (by omega)) rfl rfl rfl ?_
        refine EL_nil ?_
        refine E_cond_t rfl ?_
        refine E_skip ?_
        refine thenQ_n ?_
        refine E_seq ?_
        refine E_block ?_
        refine E_seqR ?_
        refine EL_val (R_move rfl) rfl rfl rfl ?_
        refine EL_val (R_move rfl) rfl rfl rfl ?_
        refine EL_step rfl ?_
        refine EO_call K.bd21 rfl rfl (hp2) ?_
        rintro _ w3 ⟨⟨u, rfl, hu⟩, hm3⟩
        refine EL_val (R_move rfl) rfl rfl rfl ?_
        refine EL_val (R_extract rfl rfl) rfl rfl rfl ?_
        refine EL_val (R_extract rfl rfl) rfl rfl rfl ?_
        refine EL_val (R_assign rfl) rfl rfl rfl ?_
        refine EL_nil ?_
        refine E_seqR ?_
        refine EL_val (R_move rfl) rfl rfl rfl ?_
        refine EL_nil ?_
        refine E_cond_f rfl ?_
        refine E_skip ?_
        refine inB_n ?_
        refine thenQ_n ?_
        refine E_region ?_
        refine EL_val (R_move rfl) rfl rfl rfl ?_
        refine EL_val (R_addE (((34 + 30 * (k + 1) : Nat) : Int)) rfl rfl (by omega) (by omega) (by omega)) rfl rfl rfl ?_
        refine EL_val (R_assign rfl) rfl rfl rfl ?_
        refine EL_nil ?_
        refine thenQ_n ?_
        exact ⟨rfl, 3 - (k + 1), [(0, .slice A ks.length c), (3, .int .i64 (n0 : Int)), (6, .int .i64 ((cntS ks (k + 1) : Nat) : Int)), (7, .int .i64 ((34 + 30 * (k + 1) : Nat) : Int))], by omega, ⟨rfl, rfl, by rw [hc1]; rfl, rfl, trivial⟩, k + 1, by omega, rfl, rfl, hm2.trans hm3⟩
    · have hk' : k = 3 := by omega
      subst hk'
      refine E_seq ?_
      refine E_seqR ?_
      refine EL_val (R_move rfl) rfl rfl rfl ?_
      first | refine EL_val (R_lss_t rfl rfl (by omega)) rfl rfl rfl ?_ | refine EL_val (R_lss_f rfl rfl (by omega)) rfl rfl rfl ?_
      refine EL_nil ?_
      refine E_cond_f rfl ?_
      refine E_exit ?_
      refine thenQ_e ?_
      refine thenQ_e ?_
      refine inB_eq rfl ?_
      refine thenQ_n ?_
      exact ⟨rfl, [(0, .slice A ks.length c), (3, .int .i64 (n0 : Int)), (6, .int .i64 ((cntS ks 3 : Nat) : Int))], ⟨rfl, rfl, rfl, trivial⟩, rfl, hm2⟩
  clear hm1
  rintro e0 w1 ⟨rfl, hm1⟩
  have hc3 := cntS_le ks 3
  have hn01 : n0 ≤ 1 := by rw [hn0]; split <;> omega
  by_cases h0 : 0 < cntS ks 3
  · have hneed : needS ks = n0 + (cntS ks 3 + 1) := by rw [needS, ← hn0, if_pos h0]
    refine E_seq ?_
    refine E_seqR ?_
    refine EL_val (R_move rfl) rfl rfl rfl ?_
    first | refine EL_val (R_gtr_t rfl rfl (by omega)) rfl rfl rfl ?_ | refine EL_val (R_gtr_f rfl rfl (by omega)) rfl rfl rfl ?_
    refine EL_nil ?_
    refine E_cond_t rfl ?_
    refine E_region ?_
    refine EL_val (R_move rfl) rfl rfl rfl ?_
    refine EL_val (R_addE (((cntS ks 3 + 1 : Nat) : Int)) rfl rfl (by omega) (by omega) (by omega)) rfl rfl rfl ?_
    refine EL_val (R_assign rfl) rfl rfl rfl ?_
    refine EL_nil ?_
    refine thenQ_n ?_
    refine E_seqR ?_
    refine EL_val (R_move rfl) rfl rfl rfl ?_
    refine EL_val (R_move rfl) rfl rfl rfl ?_
    refine EL_val (R_addE ((needS ks : Int)) rfl rfl (by omega) (by omega) (by omega)) rfl rfl rfl ?_
    refine EL_val (R_assign rfl) rfl rfl rfl ?_
    refine EL_nil ?_
    refine E_ret ?_
    refine ret1 (.inr rfl) rfl rfl ?_
    exact ⟨rfl, hm1⟩
  · have hneed : needS ks = n0 + 0 := by rw [needS, ← hn0, if_neg h0]
    refine E_seq ?_
    refine E_seqR ?_
    refine EL_val (R_move rfl) rfl rfl rfl ?_
    first | refine EL_val (R_gtr_t rfl rfl (by omega)) rfl rfl rfl ?_ | refine EL_val (R_gtr_f rfl rfl (by omega)) rfl rfl rfl ?_
    refine EL_nil ?_
    refine E_cond_f rfl ?_
    refine E_skip ?_
    refine thenQ_n ?_
    refine E_seqR ?_
    refine EL_val (R_move rfl) rfl rfl rfl ?_
    refine EL_val (R_move rfl) rfl rfl rfl ?_
    refine EL_val (R_addE ((needS ks : Int)) rfl rfl (by omega) (by omega) (by omega)) rfl rfl rfl ?_
    refine EL_val (R_assign rfl) rfl rfl rfl ?_
    refine EL_nil ?_
    refine E_ret ?_
    refine ret1 (.inr rfl) rfl rfl ?_
    exact ⟨rfl, hm1⟩
theorem need_ok {w : World} {A : Option Addr} {ks : List Int} {c : Nat} (hk : IS w A ks) (hc : ks.length ≤ c) (hl : ks.length ≤ 9223372036854775807) :
    Ret Try.prog 7 [.slice A ks.length c] w fun v w' => v = (if ptrsB ks then .tuple #[.int .i64 (needS ks : Int), .int .i64 0] else .tuple #[.int .i64 0, .int .i64 1]) ∧ Mods No w w' := by
  cases hpb : ptrsB ks with
  | false =>
    have hpo := pointers_ok (c := c) hk hl
    rw [hpb] at hpo
    refine Ret.enter Try.func7 rfl Try.ntmps7 rfl ?_
    simp only [argEnv, Nat.reduceAdd]
    refine E_seqR ?_
    refine EL_val (R_assign rfl) rfl rfl rfl ?_
    refine EL_val (R_assign rfl) rfl rfl rfl ?_
    refine EL_nil ?_
    refine E_seq ?_
    refine E_seqR ?_
    refine EL_val (R_move rfl) rfl rfl rfl ?_
    refine EL_step rfl ?_
    refine EO_call K.bd18 rfl rfl (hpo) ?_
    rintro _ w1 ⟨rfl, hm1⟩
    refine EL_val (R_not rfl) rfl rfl rfl ?_
    refine EL_nil ?_
    refine E_cond_t rfl ?_
    refine E_seqR ?_
    refine EL_val (R_assign rfl) rfl rfl rfl ?_
    refine EL_val (R_assign rfl) rfl rfl rfl ?_
    refine EL_nil ?_
    refine E_ret ?_
    refine thenQ_r ?_
    refine ret2 (.inr rfl) rfl rfl rfl ?_
    exact ⟨rfl, hm1⟩
  | true =>
    have hpo := pointers_ok (c := c) hk hl
    rw [hpb] at hpo
    have h96 : ks.length ≤ 96 := by unfold ptrsB at hpb; simp at hpb; exact hpb.2
    obtain ⟨n0, hn0⟩ : ∃ n0 : Nat, n0 = if someS ks 4 30 then 1 else 0 := ⟨_, rfl⟩
    have hp := fun {w' : World} (h : Mods No w w') (a : Nat) (ha : a ≤ 1000) => part_ok (c := c) (a := a) (n := 30) (hk.no h) hc (by omega) ha (by omega) (by omega)
    refine Ret.enter Try.func7 rfl Try.ntmps7 rfl ?_
    simp only [argEnv, Nat.reduceAdd]
    refine E_seqR ?_
    refine EL_val (R_assign rfl) rfl rfl rfl ?_
    refine EL_val (R_assign rfl) rfl rfl rfl ?_
    refine EL_nil ?_
    refine E_seq ?_
    refine E_seqR ?_
    refine EL_val (R_move rfl) rfl rfl rfl ?_
    refine EL_step rfl ?_
    refine EO_call K.bd18 rfl rfl (hpo) ?_
    rintro _ w1 ⟨rfl, hm1⟩
    refine EL_val (R_not rfl) rfl rfl rfl ?_
    refine EL_nil ?_
    refine E_cond_f rfl ?_
    refine E_skip ?_
    refine thenQ_n ?_
    refine E_seqR ?_
    refine EL_val (R_assign rfl) rfl rfl rfl ?_
    refine EL_nil ?_
    refine E_seq ?_
    refine E_seqR ?_
    refine EL_val (R_move rfl) rfl rfl rfl ?_
    refine EL_step rfl ?_
    refine EO_call K.bd19 rfl rfl (hp (a := 4) hm1 (by omega)) ?_
    rintro _ w2 ⟨⟨u, rfl, hu⟩, hm2⟩
    refine EL_val (R_move rfl) rfl rfl rfl ?_
    refine EL_val (R_extract rfl rfl) rfl rfl rfl ?_
    refine EL_val (R_extract rfl rfl) rfl rfl rfl ?_
    refine EL_val (R_assign rfl) rfl rfl rfl ?_
    refine EL_val (R_assign rfl) rfl rfl rfl ?_
    refine EL_nil ?_
    refine E_seqR ?_
    refine EL_val (R_move rfl) rfl rfl rfl ?_
    refine EL_nil ?_
    refine E_cut (fun e0 w' => e0 = [(0, .slice A ks.length c), (4, .int .i64 (n0 : Int))] ∧ Mods No w w') ?_ ?_
    · skip
      refine E_cond rfl (fun hb => ?_) (fun hb => ?_)
      · skip
        refine E_region ?_
        refine EL_val (R_move rfl) rfl rfl rfl ?_
        first | refine EL_val (R_inc rfl (by omega)) rfl rfl rfl ?_ | refine EL_val (R_add_in rfl rfl (by omega) (by omega)) rfl rfl rfl ?_
        refine EL_val (R_assign rfl) rfl rfl rfl ?_
        refine EL_nil ?_
        refine thenQ_n ?_
        exact ⟨rfl, [(0, .slice A ks.length c), (4, .int .i64 (n0 : Int))], ⟨rfl, by rw [hn0, if_pos (show someS ks 4 30 = true from hb)]; rfl, trivial⟩, rfl, hm1.trans hm2⟩
      · refine E_skip ?_
        refine thenQ_n ?_
        exact ⟨rfl, [(0, .slice A ks.length c), (4, .int .i64 (n0 : Int))], ⟨rfl, by rw [hn0, if_neg (by rw [show someS ks 4 30 = false from hb]; decide)]; rfl, trivial⟩, rfl, hm1.trans hm2⟩
    clear hm1 hm2 hu
    rintro e0 w1 ⟨rfl, hm1⟩

    refine E_seqR ?_
    refine EL_val (R_assign rfl) rfl rfl rfl ?_
    refine EL_nil ?_
    refine E_seq ?_
    refine E_seqR ?_
    refine EL_val (R_assign rfl) rfl rfl rfl ?_
    refine EL_nil ?_
    refine E_cut (fun e0 w' => e0 = [(0, .slice A ks.length c), (4, .int .i64 (n0 : Int)), (7, .int .i64 ((cntS ks 3 : Nat) : Int))] ∧ Mods No w w') ?_ ?_
    · refine E_block ?_
      refine E_loop (fun m' e' w' => ∃ k, k ≤ 3 ∧ m' = 3 - k ∧ e' = [(0, .slice A ks.length c), (4, .int .i64 (n0 : Int)), (7, .int .i64 ((cntS ks (k) : Nat) : Int)), (8, .int .i64 ((34 + 30 * (k) : Nat) : Int))] ∧ Mods No w w') 3 [(0, .slice A ks.length c), (4, .int .i64 (n0 : Int)), (7, .int .i64 ((cntS ks (0) : Nat) : Int)), (8, .int .i64 ((34 + 30 * (0) : Nat) : Int))] ⟨rfl, rfl, rfl, rfl, trivial⟩ ⟨0, by omega, by omega, rfl, hm1⟩ ?_
      clear hm1
      rintro m' e w2 ⟨k, hk3, rfl, rfl, hm2⟩
      by_cases hlt : 34 + 30 * k < ks.length
      · have hcl := cntS_le ks k
        cases hb : (partS ks (34 + 30 * k) 30).any nzI with
        | true =>
          have hp2 := hp hm2 (34 + 30 * k) (by omega)
          rw [hb] at hp2
          have hc1 : cntS ks (k + 1) = cntS ks k + 1 := by rw [cntS, if_pos (show someS ks _ 30 = true from hb)]
          refine E_seq ?_
          refine E_seqR ?_
          refine EL_val (R_move rfl) rfl rfl rfl ?_
          refine EL_val (R_move rfl) rfl rfl rfl ?_
          refine EL_val (R_lenSlice rfl Try.underlying22) rfl rfl rfl ?_
          first | refine EL_val (R_lss_t rfl rfl (by omega)) rfl rfl rfl ?_ | refine EL_val (R_lss_f rfl rfl (by omega)) rfl rfl rfl ?_
          refine EL_nil ?_
          refine E_cond_t rfl ?_
          refine E_skip ?_
          refine thenQ_n ?_
          refine E_seq ?_
          refine E_block ?_
          refine E_seqR ?_
          refine EL_val (R_move rfl) rfl rfl rfl ?_
          refine EL_val (R_move rfl) rfl rfl rfl ?_
          refine EL_step rfl ?_
          refine EO_call K.bd19 rfl rfl (hp2) ?_
          rintro _ w3 ⟨⟨u, rfl, hu⟩, hm3⟩
          refine EL_val (R_move rfl) rfl rfl rfl ?_
          refine EL_val (R_extract rfl rfl) rfl rfl rfl ?_
          refine EL_val (R_extract rfl rfl) rfl rfl rfl ?_
          refine EL_val (R_assign rfl) rfl rfl rfl ?_
          refine EL_val (R_assign rfl) rfl rfl rfl ?_
          refine EL_nil ?_
          refine E_seqR ?_
          refine EL_val (R_move rfl) rfl rfl rfl ?_
          refine EL_nil ?_
          refine E_cond_t rfl ?_
          refine E_region ?_
          refine EL_val (R_move rfl) rfl rfl rfl ?_
          refine EL_val (R_addE (((cntS ks (k + 1) : Nat) : Int)) rfl rfl (by omega) (by omega) (by omega)) rfl rfl rfl ?_
          refine EL_val (R_assign rfl) rfl rfl rfl ?_
          refine EL_nil ?_
          refine inB_n ?_
          refine thenQ_n ?_
          refine E_region ?_
          refine EL_val (R_move rfl) rfl rfl rfl ?_
          refine EL_val (R_addE (((34 + 30 * (k + 1) : Nat) : Int)) rfl rfl (by omega) (by omega) (by omega)) rfl rfl rfl ?_
          refine EL_val (R_assign rfl) rfl rfl rfl ?_
          refine EL_nil ?_
          refine thenQ_n ?_
          exact ⟨rfl, 3 - (k + 1), [(0, .slice A ks.length c), (4, .int .i64 (n0 : Int)), (7, .int .i64 ((cntS ks (k + 1) : Nat) : Int)), (8, .int .i64 ((34 + 30 * (k + 1) : Nat) : Int))], by omega, ⟨rfl, rfl, rfl, rfl, trivial⟩, k + 1, by omega, rfl, rfl, hm2.trans hm3⟩
        | false =>
          have hp2 := hp hm2 (34 + 30 * k) (by omega)
          rw [hb] at hp2
          have hc1 : cntS ks (k + 1) = cntS ks k := by rw [cntS, if_neg (by rw [show someS ks _ 30 = false from hb]; decide)]; rfl
          refine E_seq ?_
          refine E_seqR ?_
          refine EL_val (R_move rfl) rfl rfl rfl ?_
          refine EL_val (R_move rfl) rfl rfl rfl ?_
          refine EL_val (R_lenSlice rfl Try.underlying22) rfl rfl rfl ?_
          first | refine EL_val (R_lss_t rfl rfl (by omega)) rfl rfl rfl ?_ | refine EL_val (R_lss_f rfl rfl (by omega)) rfl rfl rfl ?_
          refine EL_nil ?_
          refine E_cond_t rfl ?_
          refine E_skip ?_
          refine thenQ_n ?_
          refine E_seq ?_
          refine E_block ?_
          refine E_seqR ?_
          refine EL_val (R_move rfl) rfl rfl rfl ?_
          refine EL_val (R_move rfl) rfl rfl rfl ?_
          refine EL_step rfl ?_
          refine EO_call K.bd19 rfl rfl (hp2) ?_
          rintro _ w3 ⟨⟨u, rfl, hu⟩, hm3⟩
          refine EL_val (R_move rfl) rfl rfl rfl ?_
          refine EL_val (R_extract rfl rfl) rfl rfl rfl ?_
          refine EL_val (R_extract rfl rfl) rfl rfl rfl ?_
          refine EL_val (R_assign rfl) rfl rfl rfl ?_
          refine EL_val (R_assign rfl) rfl rfl rfl ?_
          refine EL_nil ?_
          refine E_seqR ?_
          refine EL_val (R_move rfl) rfl rfl rfl ?_
          refine EL_nil ?_
          refine E_cond_f rfl ?_
          refine E_skip ?_
          refine inB_n ?_
          refine thenQ_n ?_
          refine E_region ?_
          refine EL_val (R_move rfl) rfl rfl rfl ?_
          refine EL_val (R_addE (((34 + 30 * (k + 1) : Nat) : Int)) rfl rfl (by omega) (by omega) (by omega)) rfl rfl rfl ?_
          refine EL_val (R_assign rfl) rfl rfl rfl ?_
          refine EL_nil ?_
          refine thenQ_n ?_
          exact ⟨rfl, 3 - (k + 1), [(0, .slice A ks.length c), (4, .int .i64 (n0 : Int)), (7, .int .i64 ((cntS ks (k + 1) : Nat) : Int)), (8, .int .i64 ((34 + 30 * (k + 1) : Nat) : Int))], by omega, ⟨rfl, rfl, by rw [hc1]; rfl, rfl, trivial⟩, k + 1, by omega, rfl, rfl, hm2.trans hm3⟩
      · have hrest := cntS_rest (ks := ks) (k := k) (by omega) (3 - k)
        rw [show k + (3 - k) = 3 from by omega] at hrest
        refine E_seq ?_
        refine E_seqR ?_
        refine EL_val (R_move rfl) rfl rfl rfl ?_
        refine EL_val (R_move rfl) rfl rfl rfl ?_
        refine EL_val (R_lenSlice rfl Try.underlying22) rfl rfl rfl ?_
        first | refine EL_val (R_lss_t rfl rfl (by omega)) rfl rfl rfl ?_ | refine EL_val (R_lss_f rfl rfl (by omega)) rfl rfl rfl ?_
        refine EL_nil ?_
        refine E_cond_f rfl ?_
        refine E_exit ?_
        refine thenQ_e ?_
        refine thenQ_e ?_
        refine inB_eq rfl ?_
        refine thenQ_n ?_
        exact ⟨rfl, [(0, .slice A ks.length c), (4, .int .i64 (n0 : Int)), (7, .int .i64 ((cntS ks 3 : Nat) : Int))], ⟨rfl, rfl, by rw [hrest]; rfl, trivial⟩, rfl, hm2⟩
    clear hm1
    rintro e0 w1 ⟨rfl, hm1⟩
    have hc3 := cntS_le ks 3
    have hn01 : n0 ≤ 1 := by rw [hn0]; split <;> omega
    by_cases h0 : 0 < cntS ks 3
    · have hneed : needS ks = n0 + (cntS ks 3 + 1) := by rw [needS, ← hn0, if_pos h0]
      refine E_seq ?_
      refine E_seqR ?_
      refine EL_val (R_move rfl) rfl rfl rfl ?_
      first | refine EL_val (R_gtr_t rfl rfl (by omega)) rfl rfl rfl ?_ | refine EL_val (R_gtr_f rfl rfl (by omega)) rfl rfl rfl ?_
      refine EL_nil ?_
      refine E_cond_t rfl ?_
      refine E_region ?_
      refine EL_val (R_move rfl) rfl rfl rfl ?_
      refine EL_val (R_addE (((cntS ks 3 + 1 : Nat) : Int)) rfl rfl (by omega) (by omega) (by omega)) rfl rfl rfl ?_
      refine EL_val (R_assign rfl) rfl rfl rfl ?_
      refine EL_nil ?_
      refine thenQ_n ?_
      refine E_seqR ?_
      refine EL_val (R_move rfl) rfl rfl rfl ?_
      refine EL_val (R_move rfl) rfl rfl rfl ?_
      refine EL_val (R_addE ((needS ks : Int)) rfl rfl (by omega) (by omega) (by omega)) rfl rfl rfl ?_
      refine EL_val (R_assign rfl) rfl rfl rfl ?_
      refine EL_val (R_assign rfl) rfl rfl rfl ?_
      refine EL_nil ?_
      refine E_ret ?_
      refine ret2 (.inr rfl) rfl rfl rfl ?_
      exact ⟨rfl, hm1⟩
    · have hneed : needS ks = n0 + 0 := by rw [needS, ← hn0, if_neg h0]
      refine E_seq ?_
      refine E_seqR ?_
      refine EL_val (R_move rfl) rfl rfl rfl ?_
      first | refine EL_val (R_gtr_t rfl rfl (by omega)) rfl rfl rfl ?_ | refine EL_val (R_gtr_f rfl rfl (by omega)) rfl rfl rfl ?_
      refine EL_nil ?_
      refine E_cond_f rfl ?_
      refine E_skip ?_
      refine thenQ_n ?_
      refine E_seqR ?_
      refine EL_val (R_move rfl) rfl rfl rfl ?_
      refine EL_val (R_move rfl) rfl rfl rfl ?_
      refine EL_val (R_addE ((needS ks : Int)) rfl rfl (by omega) (by omega) (by omega)) rfl rfl rfl ?_
      refine EL_val (R_assign rfl) rfl rfl rfl ?_
      refine EL_val (R_assign rfl) rfl rfl rfl ?_
      refine EL_nil ?_
      refine E_ret ?_
      refine ret2 (.inr rfl) rfl rfl rfl ?_
      exact ⟨rfl, hm1⟩
end Go.Proofs.Ytifmdcjncbbcgaa
