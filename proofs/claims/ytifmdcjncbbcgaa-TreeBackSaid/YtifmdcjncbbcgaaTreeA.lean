/- Lists of pointers: which are a file's (packages tree, node; drydockref09, 11). -/
import Derived.Test.YtifmdcjncbbcgaaRef4
import Derived.Test.YtifmdcjncbbcgaaMap
set_option linter.unusedVariables false
set_option linter.unusedSimpArgs false
set_option maxRecDepth 100000
namespace Go.Proofs.Ytifmdcjncbbcgaa
open Go.EW Go.RowKit

def dataI (n : Int) : Bool := decide (59 ≤ n) && decide (n < 480)
theorem dataI_iff {n : Int} : dataI n = true ↔ 59 ≤ n ∧ n < 480 := by simp [dataI]
theorem data_ok {w : World} {n : Int} : Ret Try.prog 35 [.int .i64 n] w fun v w' => v = .bool (dataI n) ∧ w = w' := by
  by_cases h1 : 59 ≤ n
  · by_cases h2 : n < 480
    · refine Ret.enter Try.func35 rfl Try.ntmps35 rfl ?_
      simp only [argEnv, Nat.reduceAdd]
      refine E_seqR ?_
      refine EL_val (R_assign rfl) rfl rfl rfl ?_
      refine EL_nil ?_
      refine E_seqR ?_
      refine EL_val (R_move rfl) rfl rfl rfl ?_
      first | refine EL_val (R_geq_t rfl rfl (by omega)) rfl rfl rfl ?_ | refine EL_val (R_geq_f rfl rfl (by omega)) rfl rfl rfl ?_
      refine EL_val (R_move rfl) rfl rfl rfl ?_
      first | refine EL_val (R_move rfl) rfl rfl rfl ?_ | refine EL_not rfl rfl rfl ?_
      first | refine EL_val (R_lss_t rfl rfl (by omega)) rfl rfl rfl ?_ | refine EL_val (R_lss_f rfl rfl (by omega)) rfl rfl rfl ?_ | refine EL_not rfl rfl rfl ?_
      first | refine EL_val (R_pick_t rfl rfl) rfl rfl rfl ?_ | refine EL_val (R_pick_f rfl rfl) rfl rfl rfl ?_
      refine EL_val (R_assign rfl) rfl rfl rfl ?_
      refine EL_nil ?_
      refine E_ret ?_
      refine ret1 (.inr rfl) rfl rfl ?_
      exact ⟨by simp [dataI, h1, h2], rfl⟩
    · refine Ret.enter Try.func35 rfl Try.ntmps35 rfl ?_
      simp only [argEnv, Nat.reduceAdd]
      refine E_seqR ?_
      refine EL_val (R_assign rfl) rfl rfl rfl ?_
      refine EL_nil ?_
      refine E_seqR ?_
      refine EL_val (R_move rfl) rfl rfl rfl ?_
      first | refine EL_val (R_geq_t rfl rfl (by omega)) rfl rfl rfl ?_ | refine EL_val (R_geq_f rfl rfl (by omega)) rfl rfl rfl ?_
      refine EL_val (R_move rfl) rfl rfl rfl ?_
      first | refine EL_val (R_move rfl) rfl rfl rfl ?_ | refine EL_not rfl rfl rfl ?_
      first | refine EL_val (R_lss_t rfl rfl (by omega)) rfl rfl rfl ?_ | refine EL_val (R_lss_f rfl rfl (by omega)) rfl rfl rfl ?_ | refine EL_not rfl rfl rfl ?_
      first | refine EL_val (R_pick_t rfl rfl) rfl rfl rfl ?_ | refine EL_val (R_pick_f rfl rfl) rfl rfl rfl ?_
      refine EL_val (R_assign rfl) rfl rfl rfl ?_
      refine EL_nil ?_
      refine E_ret ?_
      refine ret1 (.inr rfl) rfl rfl ?_
      exact ⟨by simp [dataI, h1, h2], rfl⟩
  · refine Ret.enter Try.func35 rfl Try.ntmps35 rfl ?_
    simp only [argEnv, Nat.reduceAdd]
    refine E_seqR ?_
    refine EL_val (R_assign rfl) rfl rfl rfl ?_
    refine EL_nil ?_
    refine E_seqR ?_
    refine EL_val (R_move rfl) rfl rfl rfl ?_
    first | refine EL_val (R_geq_t rfl rfl (by omega)) rfl rfl rfl ?_ | refine EL_val (R_geq_f rfl rfl (by omega)) rfl rfl rfl ?_
    refine EL_val (R_move rfl) rfl rfl rfl ?_
    first | refine EL_val (R_move rfl) rfl rfl rfl ?_ | refine EL_not rfl rfl rfl ?_
    first | refine EL_val (R_lss_t rfl rfl (by omega)) rfl rfl rfl ?_ | refine EL_val (R_lss_f rfl rfl (by omega)) rfl rfl rfl ?_ | refine EL_not rfl rfl rfl ?_
    first | refine EL_val (R_pick_t rfl rfl) rfl rfl rfl ?_ | refine EL_val (R_pick_f rfl rfl) rfl rfl rfl ?_
    refine EL_val (R_assign rfl) rfl rfl rfl ?_
    refine EL_nil ?_
    refine E_ret ?_
    refine ret1 (.inr rfl) rfl rfl ?_
    exact ⟨by simp [dataI, h1], rfl⟩
theorem rdata_ok {w : World} {n : Int} : Ret Try.prog 38 [.int .i64 n] w fun v w' => v = .bool (dataI n) ∧ w = w' := by
  by_cases h1 : 59 ≤ n
  · by_cases h2 : n < 480
    · refine Ret.enter Try.func38 rfl Try.ntmps38 rfl ?_
      simp only [argEnv, Nat.reduceAdd]
      refine E_seqR ?_
      refine EL_val (R_assign rfl) rfl rfl rfl ?_
      refine EL_nil ?_
      refine E_seqR ?_
      refine EL_val (R_move rfl) rfl rfl rfl ?_
      first | refine EL_val (R_geq_t rfl rfl (by omega)) rfl rfl rfl ?_ | refine EL_val (R_geq_f rfl rfl (by omega)) rfl rfl rfl ?_
      refine EL_val (R_move rfl) rfl rfl rfl ?_
      first | refine EL_val (R_move rfl) rfl rfl rfl ?_ | refine EL_not rfl rfl rfl ?_
      first | refine EL_val (R_lss_t rfl rfl (by omega)) rfl rfl rfl ?_ | refine EL_val (R_lss_f rfl rfl (by omega)) rfl rfl rfl ?_ | refine EL_not rfl rfl rfl ?_
      first | refine EL_val (R_pick_t rfl rfl) rfl rfl rfl ?_ | refine EL_val (R_pick_f rfl rfl) rfl rfl rfl ?_
      refine EL_val (R_assign rfl) rfl rfl rfl ?_
      refine EL_nil ?_
      refine E_ret ?_
      refine ret1 (.inr rfl) rfl rfl ?_
      exact ⟨by simp [dataI, h1, h2], rfl⟩
    · refine Ret.enter Try.func38 rfl Try.ntmps38 rfl ?_
      simp only [argEnv, Nat.reduceAdd]
      refine E_seqR ?_
      refine EL_val (R_assign rfl) rfl rfl rfl ?_
      refine EL_nil ?_
      refine E_seqR ?_
      refine EL_val (R_move rfl) rfl rfl rfl ?_
      first | refine EL_val (R_geq_t rfl rfl (by omega)) rfl rfl rfl ?_ | refine EL_val (R_geq_f rfl rfl (by omega)) rfl rfl rfl ?_
      refine EL_val (R_move rfl) rfl rfl rfl ?_
      first | refine EL_val (R_move rfl) rfl rfl rfl ?_ | refine EL_not rfl rfl rfl ?_
      first | refine EL_val (R_lss_t rfl rfl (by omega)) rfl rfl rfl ?_ | refine EL_val (R_lss_f rfl rfl (by omega)) rfl rfl rfl ?_ | refine EL_not rfl rfl rfl ?_
      first | refine EL_val (R_pick_t rfl rfl) rfl rfl rfl ?_ | refine EL_val (R_pick_f rfl rfl) rfl rfl rfl ?_
      refine EL_val (R_assign rfl) rfl rfl rfl ?_
      refine EL_nil ?_
      refine E_ret ?_
      refine ret1 (.inr rfl) rfl rfl ?_
      exact ⟨by simp [dataI, h1, h2], rfl⟩
  · refine Ret.enter Try.func38 rfl Try.ntmps38 rfl ?_
    simp only [argEnv, Nat.reduceAdd]
    refine E_seqR ?_
    refine EL_val (R_assign rfl) rfl rfl rfl ?_
    refine EL_nil ?_
    refine E_seqR ?_
    refine EL_val (R_move rfl) rfl rfl rfl ?_
    first | refine EL_val (R_geq_t rfl rfl (by omega)) rfl rfl rfl ?_ | refine EL_val (R_geq_f rfl rfl (by omega)) rfl rfl rfl ?_
    refine EL_val (R_move rfl) rfl rfl rfl ?_
    first | refine EL_val (R_move rfl) rfl rfl rfl ?_ | refine EL_not rfl rfl rfl ?_
    first | refine EL_val (R_lss_t rfl rfl (by omega)) rfl rfl rfl ?_ | refine EL_val (R_lss_f rfl rfl (by omega)) rfl rfl rfl ?_ | refine EL_not rfl rfl rfl ?_
    first | refine EL_val (R_pick_t rfl rfl) rfl rfl rfl ?_ | refine EL_val (R_pick_f rfl rfl) rfl rfl rfl ?_
    refine EL_val (R_assign rfl) rfl rfl rfl ?_
    refine EL_nil ?_
    refine E_ret ?_
    refine ret1 (.inr rfl) rfl rfl ?_
    exact ⟨by simp [dataI, h1], rfl⟩
/-- each of the first i is 0, or a data block that is not among those ahead of it -/
def GoodTo (ks : List Int) (i : Nat) : Prop := ∀ j (h : j < ks.length), j < i → ks[j] ≠ 0 → dataI ks[j] = true ∧ ks[j] ∉ ks.take j
def Good (ks : List Int) : Prop := ∀ j (h : j < ks.length), ks[j] ≠ 0 → dataI ks[j] = true ∧ ks[j] ∉ ks.take j
instance (ks : List Int) : Decidable (Good ks) := inferInstanceAs (Decidable (∀ j (h : j < ks.length), ks[j] ≠ 0 → dataI ks[j] = true ∧ ks[j] ∉ ks.take j))
theorem GoodTo.succ {ks : List Int} {i : Nat} (h : GoodTo ks i) (hi : i < ks.length) (hh : ks[i] ≠ 0 → dataI ks[i] = true ∧ ks[i] ∉ ks.take i) : GoodTo ks (i + 1) := fun j hj hji => by
  by_cases he : j = i
  · subst he; exact hh
  · exact h j hj (by omega)
theorem GoodTo.all {ks : List Int} {i : Nat} (h : GoodTo ks i) (hi : ks.length ≤ i) : Good ks := fun j hj => h j hj (by omega)
def ptrsB (ks : List Int) : Bool := decide (Good ks) && decide (ks.length ≤ 96)
theorem pointers_ok {w : World} {A : Option Addr} {ks : List Int} {c : Nat} (hk : IS w A ks) (hl : ks.length ≤ 9223372036854775807) :
    Ret Try.prog 18 [.slice A ks.length c] w fun v w' => v = .bool (ptrsB ks) ∧ Mods No w w' := by
  refine Ret.enter Try.func18 rfl Try.ntmps18 rfl ?_
  simp only [argEnv, Nat.reduceAdd]
  refine E_seqR ?_
  refine EL_val (R_assign rfl) rfl rfl rfl ?_
  refine EL_nil ?_
  refine E_seqR ?_
  refine EL_step rfl ?_
  refine EO_makeMap rfl ?_
  intro w1 hn1
  refine EL_val (R_assign rfl) rfl rfl rfl ?_
  refine EL_nil ?_
  refine E_seq ?_
  refine E_seqR ?_
  refine EL_val (R_move rfl) rfl rfl rfl ?_
  refine EL_val (R_lenSlice rfl Try.underlying22) rfl rfl rfl ?_
  refine EL_val (R_move rfl) rfl rfl rfl ?_
  refine EL_nil ?_
  refine E_block ?_
  obtain ⟨r, hr⟩ : ∃ r, r = w.heap.size := ⟨_, rfl⟩
  have hms := MSet.new hn1
  have hm1 := hn1.mods
  rw [← hr] at hms ⊢
  clear hn1
  refine E_loop (fun m' e' w' => ∃ i, i ≤ ks.length ∧ m' = ks.length - i ∧ e' = [(0, .slice (A) ks.length c), (3, .map (some r)), (9, .slice (A) ks.length c), (10, .int .i64 (ks.length : Int)), (11, .int .i64 ((i : Nat) : Int))] ∧ IS w' A ks ∧ MSet w' r (ks.take i).reverse ∧ GoodTo ks i ∧ Mods No w w') ks.length [(0, .slice (A) ks.length c), (3, .map (some r)), (9, .slice (A) ks.length c), (10, .int .i64 (ks.length : Int)), (11, .int .i64 ((0 : Nat) : Int))] ⟨rfl, rfl, rfl, rfl, rfl, trivial⟩ ⟨0, by omega, by omega, rfl, hk.no hm1, hms, fun j _ h => absurd h (by omega), hm1⟩ ?_
  clear hms hk
  rintro m' e w2 ⟨i, hi, rfl, rfl, hk, hms, hg, hm⟩
  by_cases hlt : i < ks.length
  · obtain ⟨g, o, rfl, hcell⟩ := hk.cell hlt
    have htk : ks.take (i + 1) = ks.take i ++ [ks[i]] := by rw [List.take_succ_eq_append_getElem hlt]
    have hrev : (ks.take (i + 1)).reverse = ks[i] :: (ks.take i).reverse := by rw [htk]; simp
    have hsz := hm.size
    have hrlt := hms.lt
    by_cases h0 : ks[i] = 0
    · have hdec := rfl (a := decide (ks[i] ∈ (ks.take i).reverse))
      have hh : ks[i] ≠ 0 → dataI ks[i] = true ∧ ks[i] ∉ ks.take i := fun h => absurd h0 h

      refine E_seqR ?_
      first | refine EL_val (R_lss_t rfl rfl (by omega)) rfl rfl rfl ?_ | refine EL_val (R_lss_f rfl rfl (by omega)) rfl rfl rfl ?_
      refine EL_nil ?_
      refine E_seq ?_
      refine E_cond_t rfl ?_
      refine E_skip ?_
      refine thenQ_n ?_
      refine E_seq ?_
      refine E_block ?_
      refine E_seqR ?_
      refine EL_val (R_indexAddr rfl rfl Try.underlying22 K.sz3 (m := i) rfl hlt) rfl rfl rfl ?_
      refine EL_val (R_load rfl K.ag3 ((by rw [Nat.mul_one]; exact hcell))) rfl rfl rfl ?_
      refine EL_val (R_assign rfl) rfl rfl rfl ?_
      refine EL_nil ?_
      refine E_seq ?_
      refine E_seqR ?_
      refine EL_val (R_move rfl) rfl rfl rfl ?_
      refine EL_val (R_move rfl) rfl rfl rfl ?_
      refine EL_val (R_lookupSet hms hdec Try.underlying65 Try.underlying3 K.zr66 rfl rfl) rfl rfl rfl ?_
      refine EL_val (R_move rfl) rfl rfl rfl ?_
      refine EL_val (R_extract rfl rfl) rfl rfl rfl ?_
      refine EL_val (R_extract rfl rfl) rfl rfl rfl ?_
      refine EL_step rfl ?_
      refine EO_alloc K.zr66 rfl ?_
      intro w3 hn3
      refine EL_step rfl ?_
      refine EO_storeAggB hn3.bk rfl rfl K.sz66 rfl rfl ?_
      intro w4 hu4
      refine EL_val (R_assign rfl) rfl rfl rfl ?_
      refine EL_nil ?_
      refine E_seqR ?_
      refine EL_val (R_move rfl) rfl rfl rfl ?_
      first | refine EL_val (R_neq_t rfl rfl (by omega)) rfl rfl rfl ?_ | refine EL_val (R_neq_f rfl rfl (by omega)) rfl rfl rfl ?_
      refine EL_val (R_move rfl) rfl rfl rfl ?_
      refine EL_not rfl rfl rfl ?_
      refine EL_not rfl rfl rfl ?_
      refine EL_not rfl rfl rfl ?_
      refine EL_not rfl rfl rfl ?_
      refine EL_not rfl rfl rfl ?_
      refine EL_not rfl rfl rfl ?_
      first | refine EL_val (R_pick_t rfl rfl) rfl rfl rfl ?_ | refine EL_val (R_pick_f rfl rfl) rfl rfl rfl ?_
      refine EL_nil ?_
      refine E_cond_f rfl ?_
      refine E_skip ?_
      refine thenQ_n ?_
      refine E_region ?_
      refine EL_val (R_move rfl) rfl rfl rfl ?_
      refine EL_val (R_move rfl) rfl rfl rfl ?_
      refine EL_val (R_build K.zr66 K.pl66 rfl rfl) rfl rfl rfl ?_
      refine EL_step rfl ?_
      refine EO_mapUpdateSet (hms.no (hn3.mods.trans' hu4.mods (fun k hk e => by omega)) id) Try.underlying65 Try.underlying3 rfl rfl rfl ?_
      intro w5 hms5 hm5 hs5
      refine EL_nil ?_
      refine inB_n ?_
      refine thenQ_n ?_
      refine E_region ?_
      first | refine EL_val (R_inc rfl (by omega)) rfl rfl rfl ?_ | refine EL_val (R_add_in rfl rfl (by omega) (by omega)) rfl rfl rfl ?_
      refine EL_val (R_move rfl) rfl rfl rfl ?_
      refine EL_nil ?_
      refine thenQ_n ?_
      have hm24 : Mods No w2 w4 := hn3.mods.trans' hu4.mods (fun k hk e => by omega)
      refine ⟨rfl, ks.length - (i + 1), [(0, .slice (some ⟨g, o, none⟩) ks.length c), (3, .map (some r)), (9, .slice (some ⟨g, o, none⟩) ks.length c), (10, .int .i64 (ks.length : Int)), (11, .int .i64 ((i + 1 : Nat) : Int))], by omega, ⟨rfl, rfl, rfl, rfl, rfl, trivial⟩, i + 1, by omega, rfl, rfl, (hms.no hm24 id).src hm5 (hk.no hm24), hrev ▸ hms5, hg.succ hlt hh, (hm.trans hm24).trans' hm5 (fun k hk e => by omega)⟩
    · by_cases hin : ks[i] ∈ ks.take i
      · have hdec : decide (ks[i] ∈ (ks.take i).reverse) = true := decide_eq_true (by simpa using hin)
        have hno : ptrsB ks = false := by
          have : ¬ Good ks := fun h => (h i hlt h0).2 hin
          simp [ptrsB, this]

        refine E_seqR ?_
        first | refine EL_val (R_lss_t rfl rfl (by omega)) rfl rfl rfl ?_ | refine EL_val (R_lss_f rfl rfl (by omega)) rfl rfl rfl ?_
        refine EL_nil ?_
        refine E_seq ?_
        refine E_cond_t rfl ?_
        refine E_skip ?_
        refine thenQ_n ?_
        refine E_seq ?_
        refine E_block ?_
        refine E_seqR ?_
        refine EL_val (R_indexAddr rfl rfl Try.underlying22 K.sz3 (m := i) rfl hlt) rfl rfl rfl ?_
        refine EL_val (R_load rfl K.ag3 ((by rw [Nat.mul_one]; exact hcell))) rfl rfl rfl ?_
        refine EL_val (R_assign rfl) rfl rfl rfl ?_
        refine EL_nil ?_
        refine E_seq ?_
        refine E_seqR ?_
        refine EL_val (R_move rfl) rfl rfl rfl ?_
        refine EL_val (R_move rfl) rfl rfl rfl ?_
        refine EL_val (R_lookupSet hms hdec Try.underlying65 Try.underlying3 K.zr66 rfl rfl) rfl rfl rfl ?_
        refine EL_val (R_move rfl) rfl rfl rfl ?_
        refine EL_val (R_extract rfl rfl) rfl rfl rfl ?_
        refine EL_val (R_extract rfl rfl) rfl rfl rfl ?_
        refine EL_step rfl ?_
        refine EO_alloc K.zr66 rfl ?_
        intro w3 hn3
        refine EL_step rfl ?_
        refine EO_storeAggB hn3.bk rfl rfl K.sz66 rfl rfl ?_
        intro w4 hu4
        refine EL_val (R_assign rfl) rfl rfl rfl ?_
        refine EL_nil ?_
        refine E_seqR ?_
        refine EL_val (R_move rfl) rfl rfl rfl ?_
        first | refine EL_val (R_neq_t rfl rfl (by omega)) rfl rfl rfl ?_ | refine EL_val (R_neq_f rfl rfl (by omega)) rfl rfl rfl ?_
        refine EL_val (R_move rfl) rfl rfl rfl ?_
        first | refine EL_val (R_move rfl) rfl rfl rfl ?_ | refine EL_not rfl rfl rfl ?_
        first | refine EL_val (R_move rfl) rfl rfl rfl ?_ | refine EL_not rfl rfl rfl ?_
        refine EL_not rfl rfl rfl ?_
        refine EL_not rfl rfl rfl ?_
        refine EL_not rfl rfl rfl ?_
        first | refine EL_val (R_pick_t rfl rfl) rfl rfl rfl ?_ | refine EL_val (R_pick_f rfl rfl) rfl rfl rfl ?_ | refine EL_not rfl rfl rfl ?_
        first | refine EL_val (R_pick_t rfl rfl) rfl rfl rfl ?_ | refine EL_val (R_pick_f rfl rfl) rfl rfl rfl ?_
        refine EL_nil ?_
        refine E_cond_t rfl ?_
        refine E_seqR ?_
        refine EL_val (R_assign rfl) rfl rfl rfl ?_
        refine EL_nil ?_
        refine E_ret ?_
        refine thenQ_r (inB_r (thenQ_r (thenQ_r (inB_r (thenQ_r ?_)))))
        have hm24 : Mods No w2 w4 := hn3.mods.trans' hu4.mods (fun k hk e => by omega)
        refine ret1 (.inr rfl) rfl rfl ?_
        exact ⟨by rw [hno], hm.trans hm24⟩
      · have hdec : decide (ks[i] ∈ (ks.take i).reverse) = false := decide_eq_false (by simpa using hin)
        by_cases hd : dataI ks[i] = true
        · have hh : ks[i] ≠ 0 → dataI ks[i] = true ∧ ks[i] ∉ ks.take i := fun _ => ⟨hd, hin⟩
          have hda : ∀ w, Ret Try.prog 35 [.int .i64 ks[i]] w fun v w' => v = .bool true ∧ w = w' := fun w => by have := data_ok (w := w) (n := ks[i]); rwa [hd] at this

          refine E_seqR ?_
          first | refine EL_val (R_lss_t rfl rfl (by omega)) rfl rfl rfl ?_ | refine EL_val (R_lss_f rfl rfl (by omega)) rfl rfl rfl ?_
          refine EL_nil ?_
          refine E_seq ?_
          refine E_cond_t rfl ?_
          refine E_skip ?_
          refine thenQ_n ?_
          refine E_seq ?_
          refine E_block ?_
          refine E_seqR ?_
          refine EL_val (R_indexAddr rfl rfl Try.underlying22 K.sz3 (m := i) rfl hlt) rfl rfl rfl ?_
          refine EL_val (R_load rfl K.ag3 ((by rw [Nat.mul_one]; exact hcell))) rfl rfl rfl ?_
          refine EL_val (R_assign rfl) rfl rfl rfl ?_
          refine EL_nil ?_
          refine E_seq ?_
          refine E_seqR ?_
          refine EL_val (R_move rfl) rfl rfl rfl ?_
          refine EL_val (R_move rfl) rfl rfl rfl ?_
          refine EL_val (R_lookupSet hms hdec Try.underlying65 Try.underlying3 K.zr66 rfl rfl) rfl rfl rfl ?_
          refine EL_val (R_move rfl) rfl rfl rfl ?_
          refine EL_val (R_extract rfl rfl) rfl rfl rfl ?_
          refine EL_val (R_extract rfl rfl) rfl rfl rfl ?_
          refine EL_step rfl ?_
          refine EO_alloc K.zr66 rfl ?_
          intro w3 hn3
          refine EL_step rfl ?_
          refine EO_storeAggB hn3.bk rfl rfl K.sz66 rfl rfl ?_
          intro w4 hu4
          refine EL_val (R_assign rfl) rfl rfl rfl ?_
          refine EL_nil ?_
          refine E_seqR ?_
          refine EL_val (R_move rfl) rfl rfl rfl ?_
          first | refine EL_val (R_neq_t rfl rfl (by omega)) rfl rfl rfl ?_ | refine EL_val (R_neq_f rfl rfl (by omega)) rfl rfl rfl ?_
          refine EL_val (R_move rfl) rfl rfl rfl ?_
          first | refine EL_val (R_move rfl) rfl rfl rfl ?_ | refine EL_not rfl rfl rfl ?_
          first | refine EL_val (R_move rfl) rfl rfl rfl ?_ | refine EL_not rfl rfl rfl ?_
          first | refine EL_val (R_move rfl) rfl rfl rfl ?_ | refine EL_not rfl rfl rfl ?_
          refine EL_step rfl ?_
          refine EO_call K.bd35 rfl rfl (hda _) ?_
          rintro _ _ ⟨rfl, rfl⟩
          first | refine EL_val (R_not rfl) rfl rfl rfl ?_ | refine EL_not rfl rfl rfl ?_
          first | refine EL_val (R_pick_t rfl rfl) rfl rfl rfl ?_ | refine EL_val (R_pick_f rfl rfl) rfl rfl rfl ?_ | refine EL_not rfl rfl rfl ?_
          first | refine EL_val (R_pick_t rfl rfl) rfl rfl rfl ?_ | refine EL_val (R_pick_f rfl rfl) rfl rfl rfl ?_
          refine EL_nil ?_
          refine E_cond_f rfl ?_
          refine E_skip ?_
          refine thenQ_n ?_
          refine E_region ?_
          refine EL_val (R_move rfl) rfl rfl rfl ?_
          refine EL_val (R_move rfl) rfl rfl rfl ?_
          refine EL_val (R_build K.zr66 K.pl66 rfl rfl) rfl rfl rfl ?_
          refine EL_step rfl ?_
          refine EO_mapUpdateSet (hms.no (hn3.mods.trans' hu4.mods (fun k hk e => by omega)) id) Try.underlying65 Try.underlying3 rfl rfl rfl ?_
          intro w5 hms5 hm5 hs5
          refine EL_nil ?_
          refine inB_n ?_
          refine thenQ_n ?_
          refine E_region ?_
          first | refine EL_val (R_inc rfl (by omega)) rfl rfl rfl ?_ | refine EL_val (R_add_in rfl rfl (by omega) (by omega)) rfl rfl rfl ?_
          refine EL_val (R_move rfl) rfl rfl rfl ?_
          refine EL_nil ?_
          refine thenQ_n ?_
          have hm24 : Mods No w2 w4 := hn3.mods.trans' hu4.mods (fun k hk e => by omega)
          refine ⟨rfl, ks.length - (i + 1), [(0, .slice (some ⟨g, o, none⟩) ks.length c), (3, .map (some r)), (9, .slice (some ⟨g, o, none⟩) ks.length c), (10, .int .i64 (ks.length : Int)), (11, .int .i64 ((i + 1 : Nat) : Int))], by omega, ⟨rfl, rfl, rfl, rfl, rfl, trivial⟩, i + 1, by omega, rfl, rfl, (hms.no hm24 id).src hm5 (hk.no hm24), hrev ▸ hms5, hg.succ hlt hh, (hm.trans hm24).trans' hm5 (fun k hk e => by omega)⟩
        · have hd' : dataI ks[i] = false := by simpa using hd
          have hno : ptrsB ks = false := by
            have : ¬ Good ks := fun h => hd (h i hlt h0).1
            simp [ptrsB, this]
          have hda : ∀ w, Ret Try.prog 35 [.int .i64 ks[i]] w fun v w' => v = .bool false ∧ w = w' := fun w => by have := data_ok (w := w) (n := ks[i]); rwa [hd'] at this

          refine E_seqR ?_
          first | refine EL_val (R_lss_t rfl rfl (by omega)) rfl rfl rfl ?_ | refine EL_val (R_lss_f rfl rfl (by omega)) rfl rfl rfl ?_
          refine EL_nil ?_
          refine E_seq ?_
          refine E_cond_t rfl ?_
          refine E_skip ?_
          refine thenQ_n ?_
          refine E_seq ?_
          refine E_block ?_
          refine E_seqR ?_
          refine EL_val (R_indexAddr rfl rfl Try.underlying22 K.sz3 (m := i) rfl hlt) rfl rfl rfl ?_
          refine EL_val (R_load rfl K.ag3 ((by rw [Nat.mul_one]; exact hcell))) rfl rfl rfl ?_
          refine EL_val (R_assign rfl) rfl rfl rfl ?_
          refine EL_nil ?_
          refine E_seq ?_
          refine E_seqR ?_
          refine EL_val (R_move rfl) rfl rfl rfl ?_
          refine EL_val (R_move rfl) rfl rfl rfl ?_
          refine EL_val (R_lookupSet hms hdec Try.underlying65 Try.underlying3 K.zr66 rfl rfl) rfl rfl rfl ?_
          refine EL_val (R_move rfl) rfl rfl rfl ?_
          refine EL_val (R_extract rfl rfl) rfl rfl rfl ?_
          refine EL_val (R_extract rfl rfl) rfl rfl rfl ?_
          refine EL_step rfl ?_
          refine EO_alloc K.zr66 rfl ?_
          intro w3 hn3
          refine EL_step rfl ?_
          refine EO_storeAggB hn3.bk rfl rfl K.sz66 rfl rfl ?_
          intro w4 hu4
          refine EL_val (R_assign rfl) rfl rfl rfl ?_
          refine EL_nil ?_
          refine E_seqR ?_
          refine EL_val (R_move rfl) rfl rfl rfl ?_
          first | refine EL_val (R_neq_t rfl rfl (by omega)) rfl rfl rfl ?_ | refine EL_val (R_neq_f rfl rfl (by omega)) rfl rfl rfl ?_
          refine EL_val (R_move rfl) rfl rfl rfl ?_
          first | refine EL_val (R_move rfl) rfl rfl rfl ?_ | refine EL_not rfl rfl rfl ?_
          first | refine EL_val (R_move rfl) rfl rfl rfl ?_ | refine EL_not rfl rfl rfl ?_
          first | refine EL_val (R_move rfl) rfl rfl rfl ?_ | refine EL_not rfl rfl rfl ?_
          refine EL_step rfl ?_
          refine EO_call K.bd35 rfl rfl (hda _) ?_
          rintro _ _ ⟨rfl, rfl⟩
          first | refine EL_val (R_not rfl) rfl rfl rfl ?_ | refine EL_not rfl rfl rfl ?_
          first | refine EL_val (R_pick_t rfl rfl) rfl rfl rfl ?_ | refine EL_val (R_pick_f rfl rfl) rfl rfl rfl ?_ | refine EL_not rfl rfl rfl ?_
          first | refine EL_val (R_pick_t rfl rfl) rfl rfl rfl ?_ | refine EL_val (R_pick_f rfl rfl) rfl rfl rfl ?_
          refine EL_nil ?_
          refine E_cond_t rfl ?_
          refine E_seqR ?_
          refine EL_val (R_assign rfl) rfl rfl rfl ?_
          refine EL_nil ?_
          refine E_ret ?_
          refine thenQ_r (inB_r (thenQ_r (thenQ_r (inB_r (thenQ_r ?_)))))
          have hm24 : Mods No w2 w4 := hn3.mods.trans' hu4.mods (fun k hk e => by omega)
          refine ret1 (.inr rfl) rfl rfl ?_
          exact ⟨by rw [hno], hm.trans hm24⟩
  · have hi' : i = ks.length := by omega
    subst hi'
    have hgood : Good ks := hg.all (Nat.le_refl _)
    by_cases h96 : ks.length ≤ 96
    · skip
      refine E_seqR ?_
      first | refine EL_val (R_lss_t rfl rfl (by omega)) rfl rfl rfl ?_ | refine EL_val (R_lss_f rfl rfl (by omega)) rfl rfl rfl ?_
      refine EL_nil ?_
      refine E_seq ?_
      refine E_cond_f rfl ?_
      refine E_exit ?_
      refine thenQ_e ?_
      refine thenQ_e ?_
      refine inB_eq rfl ?_
      refine thenQ_n ?_
      refine E_seqR ?_
      refine EL_val (R_move rfl) rfl rfl rfl ?_
      refine EL_val (R_lenSlice rfl Try.underlying22) rfl rfl rfl ?_
      first | refine EL_val (R_leq_t rfl rfl (by omega)) rfl rfl rfl ?_ | refine EL_val (R_leq_f rfl rfl (by omega)) rfl rfl rfl ?_
      refine EL_val (R_assign rfl) rfl rfl rfl ?_
      refine EL_nil ?_
      refine E_ret ?_
      refine ret1 (.inr rfl) rfl rfl ?_
      exact ⟨by simp [ptrsB, hgood, h96], hm⟩
    · skip
      refine E_seqR ?_
      first | refine EL_val (R_lss_t rfl rfl (by omega)) rfl rfl rfl ?_ | refine EL_val (R_lss_f rfl rfl (by omega)) rfl rfl rfl ?_
      refine EL_nil ?_
      refine E_seq ?_
      refine E_cond_f rfl ?_
      refine E_exit ?_
      refine thenQ_e ?_
      refine thenQ_e ?_
      refine inB_eq rfl ?_
      refine thenQ_n ?_
      refine E_seqR ?_
      refine EL_val (R_move rfl) rfl rfl rfl ?_
      refine EL_val (R_lenSlice rfl Try.underlying22) rfl rfl rfl ?_
      first | refine EL_val (R_leq_t rfl rfl (by omega)) rfl rfl rfl ?_ | refine EL_val (R_leq_f rfl rfl (by omega)) rfl rfl rfl ?_
      refine EL_val (R_assign rfl) rfl rfl rfl ?_
      refine EL_nil ?_
      refine E_ret ?_
      refine ret1 (.inr rfl) rfl rfl ?_
      exact ⟨by simp [ptrsB, hgood, h96], hm⟩
end Go.Proofs.Ytifmdcjncbbcgaa
