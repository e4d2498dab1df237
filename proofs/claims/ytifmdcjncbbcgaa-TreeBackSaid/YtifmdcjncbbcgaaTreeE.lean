/- Fresh blocks; pages of pointers (packages tree, drydockref11). -/
import Derived.Test.YtifmdcjncbbcgaaTreeD
set_option linter.unusedVariables false
set_option linter.unusedSimpArgs false
set_option maxRecDepth 100000
namespace Go.Proofs.Ytifmdcjncbbcgaa
open Go.EW Go.RowKit

/-- what a closure over a list answers: is a number in it? -/
theorem among_ok {w : World} {A : Option Addr} {ks : List Int} {c b : Nat} {x : Int} (hb : Bk w b #[.slice A ks.length c] 22) (hk : IS w A ks) (hl : ks.length ≤ 9223372036854775807) :
    Ret Try.prog 23 [.int .i64 x, ptr b] w fun v w' => v = .bool (decide (x ∈ ks)) ∧ w = w' := by
  refine Ret.enter Try.func23 rfl Try.ntmps23 rfl ?_
  simp only [argEnv, Nat.reduceAdd]
  refine E_seqR ?_
  refine EL_val (R_assign rfl) rfl rfl rfl ?_
  refine EL_nil ?_
  refine E_seqR ?_
  refine EL_val (R_load rfl K.ag22 (hb.cell rfl)) rfl rfl rfl ?_
  refine EL_val (R_move rfl) rfl rfl rfl ?_
  refine EL_step rfl ?_
  refine EO_call K.bd24 rfl rfl (contains_ok hk hl) ?_
  rintro _ _ ⟨rfl, rfl⟩
  refine EL_val (R_assign rfl) rfl rfl rfl ?_
  refine EL_nil ?_
  refine E_ret ?_
  refine ret1 (.inr rfl) rfl rfl ?_
  exact ⟨rfl, rfl⟩
def FreshTo (ks fs : List Int) (i : Nat) : Prop := ∀ j (h : j < fs.length), j < i → dataI fs[j] = true ∧ fs[j] ∉ fs.take j ∧ fs[j] ∉ ks
instance (ks fs : List Int) (i : Nat) : Decidable (FreshTo ks fs i) := inferInstanceAs (Decidable (∀ j (h : j < fs.length), j < i → dataI fs[j] = true ∧ fs[j] ∉ fs.take j ∧ fs[j] ∉ ks))
def freshE (ks fs : List Int) (n : Nat) : Int := if fs.length < n then 6 else if FreshTo ks fs n then 0 else 1
theorem FreshTo.succ {ks fs : List Int} {i : Nat} (h : FreshTo ks fs i) (hi : i < fs.length) (hh : dataI fs[i] = true ∧ fs[i] ∉ fs.take i ∧ fs[i] ∉ ks) : FreshTo ks fs (i + 1) := fun j hj hji => by
  by_cases he : j = i
  · subst he; exact hh
  · exact h j hj (by omega)
theorem fresh_ok {w : World} {A : Option Addr} {ks fs : List Int} {c n f : Nat} {caps : List Value} (hA : ∀ a, A = some a → a.spot = none) (hk : IS w A fs) (hc : fs.length ≤ c) (hl : fs.length ≤ 9223372036854775807) (hb : Bodied Try.prog f = true) (hf : ∀ x, Ret Try.prog f ([.int .i64 x] ++ caps) w fun v w' => v = .bool (decide (x ∈ ks)) ∧ w = w') (hn : n ≤ 1000) :
    Ret Try.prog 22 [.slice A fs.length c, .int .i64 (n : Int), .func (.func f) #[] caps.toArray] w fun v w' => v = .int .i64 (freshE ks fs n) ∧ w = w' := by
  by_cases hs : fs.length < n
  · refine Ret.enter Try.func22 rfl Try.ntmps22 rfl ?_
    simp only [argEnv, Nat.reduceAdd]
    refine E_seqR ?_
    refine EL_val (R_assign rfl) rfl rfl rfl ?_
    refine EL_nil ?_
    refine E_seq ?_
    refine E_seqR ?_
    refine EL_val (R_move rfl) rfl rfl rfl ?_
    refine EL_val (R_lenSlice rfl Try.underlying22) rfl rfl rfl ?_
    refine EL_val (R_move rfl) rfl rfl rfl ?_
    first | refine EL_val (R_lss_t rfl rfl (by omega)) rfl rfl rfl ?_ | refine EL_val (R_lss_f rfl rfl (by omega)) rfl rfl rfl ?_
    refine EL_nil ?_
    refine E_cond_t rfl ?_
    refine E_seqR ?_
    refine EL_val (R_assign rfl) rfl rfl rfl ?_
    refine EL_nil ?_
    refine E_ret ?_
    refine thenQ_r ?_
    refine ret1 (.inr rfl) rfl rfl ?_
    exact ⟨by rw [freshE, if_pos hs], rfl⟩
  · refine Ret.enter Try.func22 rfl Try.ntmps22 rfl ?_
    simp only [argEnv, Nat.reduceAdd]
    refine E_seqR ?_
    refine EL_val (R_assign rfl) rfl rfl rfl ?_
    refine EL_nil ?_
    refine E_seq ?_
    refine E_seqR ?_
    refine EL_val (R_move rfl) rfl rfl rfl ?_
    refine EL_val (R_lenSlice rfl Try.underlying22) rfl rfl rfl ?_
    refine EL_val (R_move rfl) rfl rfl rfl ?_
    first | refine EL_val (R_lss_t rfl rfl (by omega)) rfl rfl rfl ?_ | refine EL_val (R_lss_f rfl rfl (by omega)) rfl rfl rfl ?_
    refine EL_nil ?_
    refine E_cond_f rfl ?_
    refine E_skip ?_
    refine thenQ_n ?_
    refine E_seq ?_
    refine E_seqR ?_
    refine EL_val (R_move rfl) rfl rfl rfl ?_
    refine EL_val (R_move rfl) rfl rfl rfl ?_
    refine EL_val (R_sliceH (n) (by omega) (by omega) rfl rfl Try.underlying22 K.sz3 (by first | (rintro _ ⟨⟩ <;> rfl) | assumption)) rfl rfl rfl ?_
    refine EL_val (R_lenSlice rfl Try.underlying22) rfl rfl rfl ?_
    refine EL_val (R_move rfl) rfl rfl rfl ?_
    refine EL_nil ?_
    refine E_block ?_
    refine E_loop (fun m' e' w' => ∃ i, i ≤ n ∧ m' = n - i ∧ e' = [(0, .slice (A) fs.length c), (1, .int .i64 (n : Int)), (2, .func (.func f) #[] caps.toArray), (15, .slice (A) n c), (16, .int .i64 (n : Int)), (17, .int .i64 ((i : Nat) : Int))] ∧ w' = w ∧ FreshTo ks fs i) n [(0, .slice (A) fs.length c), (1, .int .i64 (n : Int)), (2, .func (.func f) #[] caps.toArray), (15, .slice (A) n c), (16, .int .i64 (n : Int)), (17, .int .i64 ((0 : Nat) : Int))] ⟨rfl, rfl, rfl, rfl, rfl, rfl, trivial⟩ ⟨0, by omega, by omega, rfl, rfl, fun j _ h => absurd h (by omega)⟩ ?_
    rintro m' e w2 ⟨i, hi, rfl, rfl, rfl, hg⟩
    by_cases hlt : i < n
    · have hlf : i < fs.length := by omega
      obtain ⟨g, o, rfl, hcell⟩ := hk.cell hlf
      have hct : Ret Try.prog 24 [.slice (some ⟨g, o, none⟩) i c, .int .i64 fs[i]] w2 fun v w' => v = .bool (decide (fs[i] ∈ fs.take i)) ∧ w2 = w' := by
        have := contains_ok (c := c) (x := fs[i]) (hk.take i) (by simp; omega)
        rwa [List.length_take, Nat.min_eq_left (by omega)] at this
      have hfx := hf fs[i]
      by_cases hd : dataI fs[i] = true
      · have hda : ∀ w, Ret Try.prog 35 [.int .i64 fs[i]] w fun v w' => v = .bool true ∧ w = w' := fun w => by have := data_ok (w := w) (n := fs[i]); rwa [hd] at this
        by_cases hin : fs[i] ∈ fs.take i
        · rw [decide_eq_true hin] at hct
          have hno : ¬ FreshTo ks fs n := fun h => (h i hlf hlt).2.1 hin

          refine E_seqR ?_
          first | refine EL_val (R_lss_t rfl rfl (by omega)) rfl rfl rfl ?_ | refine EL_val (R_lss_f rfl rfl (by omega)) rfl rfl rfl ?_
          refine EL_nil ?_
          refine E_seq ?_
          refine E_cond_t rfl ?_
          refine E_skip ?_
          refine thenQ_n ?_
          refine E_seq ?_
          refine E_block ?_
          refine E_seqR ?_
          refine EL_val (R_move rfl) rfl rfl rfl ?_
          refine EL_val (R_indexAddr rfl rfl Try.underlying22 K.sz3 (m := i) rfl hlt) rfl rfl rfl ?_
          refine EL_val (R_load rfl K.ag3 ((by rw [Nat.mul_one]; exact hcell))) rfl rfl rfl ?_
          refine EL_val (R_assign rfl) rfl rfl rfl ?_
          refine EL_val (R_assign rfl) rfl rfl rfl ?_
          refine EL_nil ?_
          refine E_seqR ?_
          refine EL_val (R_move rfl) rfl rfl rfl ?_
          refine EL_step rfl ?_
          refine EO_call K.bd35 rfl rfl (hda _) ?_
          rintro _ _ ⟨rfl, rfl⟩
          refine EL_val (R_not rfl) rfl rfl rfl ?_
          refine EL_val (R_move rfl) rfl rfl rfl ?_
          first | refine EL_val (R_move rfl) rfl rfl rfl ?_ | refine EL_not rfl rfl rfl ?_
          first | refine EL_val (R_move rfl) rfl rfl rfl ?_ | refine EL_not rfl rfl rfl ?_
          first | refine EL_val (R_sliceH (i) (by omega) (by omega) rfl rfl Try.underlying22 K.sz3 (by first | (rintro _ ⟨⟩ <;> rfl) | assumption)) rfl rfl rfl ?_ | refine EL_not rfl rfl rfl ?_
          first | refine EL_val (R_move rfl) rfl rfl rfl ?_ | refine EL_not rfl rfl rfl ?_
          refine EL_step rfl ?_
          refine EO_call K.bd24 rfl rfl (hct) ?_
          rintro _ _ ⟨rfl, rfl⟩
          first | refine EL_val (R_pick_t rfl rfl) rfl rfl rfl ?_ | refine EL_val (R_pick_f rfl rfl) rfl rfl rfl ?_
          refine EL_val (R_move rfl) rfl rfl rfl ?_
          first | refine EL_val (R_move rfl) rfl rfl rfl ?_ | refine EL_not rfl rfl rfl ?_
          first | refine EL_val (R_move rfl) rfl rfl rfl ?_ | refine EL_not rfl rfl rfl ?_
          refine EL_not rfl rfl rfl ?_
          first | refine EL_val (R_pick_t rfl rfl) rfl rfl rfl ?_ | refine EL_val (R_pick_f rfl rfl) rfl rfl rfl ?_
          refine EL_nil ?_
          refine E_cond_t rfl ?_
          refine E_seqR ?_
          refine EL_val (R_assign rfl) rfl rfl rfl ?_
          refine EL_nil ?_
          refine E_ret ?_
          refine inB_r (thenQ_r (thenQ_r (inB_r (thenQ_r ?_))))
          refine ret1 (.inr rfl) rfl rfl ?_
          exact ⟨by rw [freshE, if_neg hs, if_neg hno], rfl⟩
        · rw [decide_eq_false hin] at hct
          by_cases hik : fs[i] ∈ ks
          · rw [decide_eq_true hik] at hfx
            have hno : ¬ FreshTo ks fs n := fun h => (h i hlf hlt).2.2 hik

            refine E_seqR ?_
            first | refine EL_val (R_lss_t rfl rfl (by omega)) rfl rfl rfl ?_ | refine EL_val (R_lss_f rfl rfl (by omega)) rfl rfl rfl ?_
            refine EL_nil ?_
            refine E_seq ?_
            refine E_cond_t rfl ?_
            refine E_skip ?_
            refine thenQ_n ?_
            refine E_seq ?_
            refine E_block ?_
            refine E_seqR ?_
            refine EL_val (R_move rfl) rfl rfl rfl ?_
            refine EL_val (R_indexAddr rfl rfl Try.underlying22 K.sz3 (m := i) rfl hlt) rfl rfl rfl ?_
            refine EL_val (R_load rfl K.ag3 ((by rw [Nat.mul_one]; exact hcell))) rfl rfl rfl ?_
            refine EL_val (R_assign rfl) rfl rfl rfl ?_
            refine EL_val (R_assign rfl) rfl rfl rfl ?_
            refine EL_nil ?_
            refine E_seqR ?_
            refine EL_val (R_move rfl) rfl rfl rfl ?_
            refine EL_step rfl ?_
            refine EO_call K.bd35 rfl rfl (hda _) ?_
            rintro _ _ ⟨rfl, rfl⟩
            refine EL_val (R_not rfl) rfl rfl rfl ?_
            refine EL_val (R_move rfl) rfl rfl rfl ?_
            first | refine EL_val (R_move rfl) rfl rfl rfl ?_ | refine EL_not rfl rfl rfl ?_
            first | refine EL_val (R_move rfl) rfl rfl rfl ?_ | refine EL_not rfl rfl rfl ?_
            first | refine EL_val (R_sliceH (i) (by omega) (by omega) rfl rfl Try.underlying22 K.sz3 (by first | (rintro _ ⟨⟩ <;> rfl) | assumption)) rfl rfl rfl ?_ | refine EL_not rfl rfl rfl ?_
            first | refine EL_val (R_move rfl) rfl rfl rfl ?_ | refine EL_not rfl rfl rfl ?_
            refine EL_step rfl ?_
            refine EO_call K.bd24 rfl rfl (hct) ?_
            rintro _ _ ⟨rfl, rfl⟩
            first | refine EL_val (R_pick_t rfl rfl) rfl rfl rfl ?_ | refine EL_val (R_pick_f rfl rfl) rfl rfl rfl ?_
            refine EL_val (R_move rfl) rfl rfl rfl ?_
            first | refine EL_val (R_move rfl) rfl rfl rfl ?_ | refine EL_not rfl rfl rfl ?_
            first | refine EL_val (R_move rfl) rfl rfl rfl ?_ | refine EL_not rfl rfl rfl ?_
            refine EL_step rfl ?_
            refine EO_callv (caps := caps) hb rfl rfl rfl hfx ?_
            rintro _ _ ⟨rfl, rfl⟩
            first | refine EL_val (R_pick_t rfl rfl) rfl rfl rfl ?_ | refine EL_val (R_pick_f rfl rfl) rfl rfl rfl ?_
            refine EL_nil ?_
            refine E_cond_t rfl ?_
            refine E_seqR ?_
            refine EL_val (R_assign rfl) rfl rfl rfl ?_
            refine EL_nil ?_
            refine E_ret ?_
            refine inB_r (thenQ_r (thenQ_r (inB_r (thenQ_r ?_))))
            refine ret1 (.inr rfl) rfl rfl ?_
            exact ⟨by rw [freshE, if_neg hs, if_neg hno], rfl⟩
          · rw [decide_eq_false hik] at hfx

            refine E_seqR ?_
            first | refine EL_val (R_lss_t rfl rfl (by omega)) rfl rfl rfl ?_ | refine EL_val (R_lss_f rfl rfl (by omega)) rfl rfl rfl ?_
            refine EL_nil ?_
            refine E_seq ?_
            refine E_cond_t rfl ?_
            refine E_skip ?_
            refine thenQ_n ?_
            refine E_seq ?_
            refine E_block ?_
            refine E_seqR ?_
            refine EL_val (R_move rfl) rfl rfl rfl ?_
            refine EL_val (R_indexAddr rfl rfl Try.underlying22 K.sz3 (m := i) rfl hlt) rfl rfl rfl ?_
            refine EL_val (R_load rfl K.ag3 ((by rw [Nat.mul_one]; exact hcell))) rfl rfl rfl ?_
            refine EL_val (R_assign rfl) rfl rfl rfl ?_
            refine EL_val (R_assign rfl) rfl rfl rfl ?_
            refine EL_nil ?_
            refine E_seqR ?_
            refine EL_val (R_move rfl) rfl rfl rfl ?_
            refine EL_step rfl ?_
            refine EO_call K.bd35 rfl rfl (hda _) ?_
            rintro _ _ ⟨rfl, rfl⟩
            refine EL_val (R_not rfl) rfl rfl rfl ?_
            refine EL_val (R_move rfl) rfl rfl rfl ?_
            first | refine EL_val (R_move rfl) rfl rfl rfl ?_ | refine EL_not rfl rfl rfl ?_
            first | refine EL_val (R_move rfl) rfl rfl rfl ?_ | refine EL_not rfl rfl rfl ?_
            first | refine EL_val (R_sliceH (i) (by omega) (by omega) rfl rfl Try.underlying22 K.sz3 (by first | (rintro _ ⟨⟩ <;> rfl) | assumption)) rfl rfl rfl ?_ | refine EL_not rfl rfl rfl ?_
            first | refine EL_val (R_move rfl) rfl rfl rfl ?_ | refine EL_not rfl rfl rfl ?_
            refine EL_step rfl ?_
            refine EO_call K.bd24 rfl rfl (hct) ?_
            rintro _ _ ⟨rfl, rfl⟩
            first | refine EL_val (R_pick_t rfl rfl) rfl rfl rfl ?_ | refine EL_val (R_pick_f rfl rfl) rfl rfl rfl ?_
            refine EL_val (R_move rfl) rfl rfl rfl ?_
            first | refine EL_val (R_move rfl) rfl rfl rfl ?_ | refine EL_not rfl rfl rfl ?_
            first | refine EL_val (R_move rfl) rfl rfl rfl ?_ | refine EL_not rfl rfl rfl ?_
            refine EL_step rfl ?_
            refine EO_callv (caps := caps) hb rfl rfl rfl hfx ?_
            rintro _ _ ⟨rfl, rfl⟩
            first | refine EL_val (R_pick_t rfl rfl) rfl rfl rfl ?_ | refine EL_val (R_pick_f rfl rfl) rfl rfl rfl ?_
            refine EL_nil ?_
            refine E_cond_f rfl ?_
            refine E_skip ?_
            refine inB_n ?_
            refine thenQ_n ?_
            refine E_region ?_
            first | refine EL_val (R_inc rfl (by omega)) rfl rfl rfl ?_ | refine EL_val (R_add_in rfl rfl (by omega) (by omega)) rfl rfl rfl ?_
            refine EL_val (R_move rfl) rfl rfl rfl ?_
            refine EL_nil ?_
            refine thenQ_n ?_
            exact ⟨rfl, n - (i + 1), [(0, .slice (some ⟨g, o, none⟩) fs.length c), (1, .int .i64 (n : Int)), (2, .func (.func f) #[] caps.toArray), (15, .slice (some ⟨g, o, none⟩) n c), (16, .int .i64 (n : Int)), (17, .int .i64 ((i + 1 : Nat) : Int))], by omega, ⟨rfl, rfl, rfl, rfl, rfl, rfl, trivial⟩, i + 1, by omega, rfl, rfl, rfl, hg.succ hlf ⟨hd, hin, hik⟩⟩
      · have hd' : dataI fs[i] = false := by simpa using hd
        have hno : ¬ FreshTo ks fs n := fun h => hd (h i hlf hlt).1
        have hda : ∀ w, Ret Try.prog 35 [.int .i64 fs[i]] w fun v w' => v = .bool false ∧ w = w' := fun w => by have := data_ok (w := w) (n := fs[i]); rwa [hd'] at this

        refine E_seqR ?_
        first | refine EL_val (R_lss_t rfl rfl (by omega)) rfl rfl rfl ?_ | refine EL_val (R_lss_f rfl rfl (by omega)) rfl rfl rfl ?_
        refine EL_nil ?_
        refine E_seq ?_
        refine E_cond_t rfl ?_
        refine E_skip ?_
        refine thenQ_n ?_
        refine E_seq ?_
        refine E_block ?_
        refine E_seqR ?_
        refine EL_val (R_move rfl) rfl rfl rfl ?_
        refine EL_val (R_indexAddr rfl rfl Try.underlying22 K.sz3 (m := i) rfl hlt) rfl rfl rfl ?_
        refine EL_val (R_load rfl K.ag3 ((by rw [Nat.mul_one]; exact hcell))) rfl rfl rfl ?_
        refine EL_val (R_assign rfl) rfl rfl rfl ?_
        refine EL_val (R_assign rfl) rfl rfl rfl ?_
        refine EL_nil ?_
        refine E_seqR ?_
        refine EL_val (R_move rfl) rfl rfl rfl ?_
        refine EL_step rfl ?_
        refine EO_call K.bd35 rfl rfl (hda _) ?_
        rintro _ _ ⟨rfl, rfl⟩
        refine EL_val (R_not rfl) rfl rfl rfl ?_
        refine EL_val (R_move rfl) rfl rfl rfl ?_
        refine EL_not rfl rfl rfl ?_
        refine EL_not rfl rfl rfl ?_
        refine EL_not rfl rfl rfl ?_
        refine EL_not rfl rfl rfl ?_
        refine EL_not rfl rfl rfl ?_
        first | refine EL_val (R_pick_t rfl rfl) rfl rfl rfl ?_ | refine EL_val (R_pick_f rfl rfl) rfl rfl rfl ?_
        refine EL_val (R_move rfl) rfl rfl rfl ?_
        refine EL_not rfl rfl rfl ?_
        refine EL_not rfl rfl rfl ?_
        refine EL_not rfl rfl rfl ?_
        first | refine EL_val (R_pick_t rfl rfl) rfl rfl rfl ?_ | refine EL_val (R_pick_f rfl rfl) rfl rfl rfl ?_
        refine EL_nil ?_
        refine E_cond_t rfl ?_
        refine E_seqR ?_
        refine EL_val (R_assign rfl) rfl rfl rfl ?_
        refine EL_nil ?_
        refine E_ret ?_
        refine inB_r (thenQ_r (thenQ_r (inB_r (thenQ_r ?_))))
        refine ret1 (.inr rfl) rfl rfl ?_
        exact ⟨by rw [freshE, if_neg hs, if_neg hno], rfl⟩
    · have hi' : i = n := by omega
      subst hi'

      refine E_seqR ?_
      first | refine EL_val (R_lss_t rfl rfl (by omega)) rfl rfl rfl ?_ | refine EL_val (R_lss_f rfl rfl (by omega)) rfl rfl rfl ?_
      refine EL_nil ?_
      refine E_seq ?_
      refine E_cond_f rfl ?_
      refine E_exit ?_
      refine thenQ_e ?_
      refine thenQ_e ?_
      refine inB_eq rfl ?_
      refine thenQ_n ?_
      refine E_seqR ?_
      refine EL_val (R_assign rfl) rfl rfl rfl ?_
      refine EL_nil ?_
      refine E_ret ?_
      refine ret1 (.inr rfl) rfl rfl ?_
      exact ⟨by rw [freshE, if_neg hs, if_pos hg], rfl⟩
theorem good_app {ks fs : List Int} {n : Nat} (hk : Good ks) (hn : n ≤ fs.length) (hd : ∀ j (h : j < fs.length), j < n → dataI fs[j] = true) : Good (ks ++ fs.take n) ↔ FreshTo ks fs n := by
  constructor
  · intro h j hj hjn
    have h1 := h (ks.length + j) (by simp; omega)
    have e : (ks ++ fs.take n)[ks.length + j]'(by simp; omega) = fs[j] := by
      rw [List.getElem_append_right (by omega)]
      simp
    rw [e] at h1
    have hdj := hd j hj hjn
    have h0 : fs[j] ≠ 0 := by have := dataI_iff.1 hdj; omega
    obtain ⟨_, h3⟩ := h1 h0
    rw [List.take_append, List.take_of_length_le (by omega), show ks.length + j - ks.length = j from by omega, List.take_take, Nat.min_eq_left (by omega), List.mem_append] at h3
    exact ⟨hdj, fun h => h3 (.inr h), fun h => h3 (.inl h)⟩
  · intro h j hj h0
    by_cases hjk : j < ks.length
    · have e : (ks ++ fs.take n)[j] = ks[j] := List.getElem_append_left hjk
      rw [e] at h0 ⊢
      rw [List.take_append_of_le_length (by omega)]
      exact hk j hjk h0
    · simp only [List.length_append, List.length_take] at hj
      obtain ⟨q, rfl⟩ : ∃ q, j = ks.length + q := ⟨j - ks.length, by omega⟩
      have e : (ks ++ fs.take n)[ks.length + q] = fs[q]'(by omega) := by
        rw [List.getElem_append_right (by omega)]
        simp
      rw [e] at h0 ⊢
      obtain ⟨h1, h2, h3⟩ := h q (by omega) (by omega)
      refine ⟨h1, ?_⟩
      rw [List.take_append, List.take_of_length_le (by omega), show ks.length + q - ks.length = q from by omega, List.take_take, Nat.min_eq_left (by omega), List.mem_append]
      exact fun h => h.elim h3 h2
theorem rfresh_ok {w : World} {A B : Option Addr} {ks fs : List Int} {c c' n : Nat} (hA : ∀ a, A = some a → a.spot = none) (hk : IS w A fs) (hc : fs.length ≤ c) (hl : fs.length ≤ 9223372036854775807) (hks : IS w B ks) (hl2 : ks.length ≤ 96) (hg : Good ks) (hn : n ≤ 1000) :
    Ret Try.prog 27 [.slice A fs.length c, .int .i64 (n : Int), .slice B ks.length c'] w fun v w' => v = .int .i64 (freshE ks fs n) ∧ Mods No w w' := by
  by_cases hs : fs.length < n
  · refine Ret.enter Try.func27 rfl Try.ntmps27 rfl ?_
    simp only [argEnv, Nat.reduceAdd]
    refine E_seqR ?_
    refine EL_val (R_assign rfl) rfl rfl rfl ?_
    refine EL_nil ?_
    refine E_seq ?_
    refine E_seqR ?_
    refine EL_val (R_move rfl) rfl rfl rfl ?_
    refine EL_val (R_lenSlice rfl Try.underlying22) rfl rfl rfl ?_
    refine EL_val (R_move rfl) rfl rfl rfl ?_
    first | refine EL_val (R_lss_t rfl rfl (by omega)) rfl rfl rfl ?_ | refine EL_val (R_lss_f rfl rfl (by omega)) rfl rfl rfl ?_
    refine EL_nil ?_
    refine E_cond_t rfl ?_
    refine E_seqR ?_
    refine EL_val (R_assign rfl) rfl rfl rfl ?_
    refine EL_nil ?_
    refine E_ret ?_
    refine thenQ_r ?_
    refine ret1 (.inr rfl) rfl rfl ?_
    exact ⟨by rw [freshE, if_pos hs], Mods.refl _ _⟩
  · refine Ret.enter Try.func27 rfl Try.ntmps27 rfl ?_
    simp only [argEnv, Nat.reduceAdd]
    refine E_seqR ?_
    refine EL_val (R_assign rfl) rfl rfl rfl ?_
    refine EL_nil ?_
    refine E_seq ?_
    refine E_seqR ?_
    refine EL_val (R_move rfl) rfl rfl rfl ?_
    refine EL_val (R_lenSlice rfl Try.underlying22) rfl rfl rfl ?_
    refine EL_val (R_move rfl) rfl rfl rfl ?_
    first | refine EL_val (R_lss_t rfl rfl (by omega)) rfl rfl rfl ?_ | refine EL_val (R_lss_f rfl rfl (by omega)) rfl rfl rfl ?_
    refine EL_nil ?_
    refine E_cond_f rfl ?_
    refine E_skip ?_
    refine thenQ_n ?_
    refine E_seq ?_
    refine E_seqR ?_
    refine EL_val (R_assign rfl) rfl rfl rfl ?_
    refine EL_nil ?_
    refine E_cut (fun e0 w' => e0 = [(0, .slice A fs.length c), (1, .int .i64 (n : Int)), (2, .slice B ks.length c')] ∧ w' = w ∧ ∀ j (h : j < fs.length), j < n → dataI fs[j] = true) ?_ ?_
    · refine E_block ?_
      refine E_loop (fun m' e' w' => ∃ i, i ≤ n ∧ m' = n - i ∧ e' = [(0, .slice (A) fs.length c), (1, .int .i64 (n : Int)), (2, .slice B ks.length c'), (7, .int .i64 ((i : Nat) : Int))] ∧ w' = w ∧ ∀ j (h : j < fs.length), j < i → dataI fs[j] = true) n [(0, .slice (A) fs.length c), (1, .int .i64 (n : Int)), (2, .slice B ks.length c'), (7, .int .i64 ((0 : Nat) : Int))] ⟨rfl, rfl, rfl, rfl, trivial⟩ ⟨0, by omega, by omega, rfl, rfl, fun j _ h => absurd h (by omega)⟩ ?_
      rintro m' e w2 ⟨i, hi, rfl, rfl, rfl, hg'⟩
      by_cases hlt : i < n
      · have hlf : i < fs.length := by omega
        obtain ⟨g, o, rfl, hcell⟩ := hk.cell hlf
        by_cases hd : dataI fs[i] = true
        · have hda : ∀ w, Ret Try.prog 38 [.int .i64 fs[i]] w fun v w' => v = .bool true ∧ w = w' := fun w => by have := rdata_ok (w := w) (n := fs[i]); rwa [hd] at this
          refine E_seq ?_
          refine E_seqR ?_
          refine EL_val (R_move rfl) rfl rfl rfl ?_
          refine EL_val (R_move rfl) rfl rfl rfl ?_
          first | refine EL_val (R_lss_t rfl rfl (by omega)) rfl rfl rfl ?_ | refine EL_val (R_lss_f rfl rfl (by omega)) rfl rfl rfl ?_
          refine EL_nil ?_
          refine E_cond_t rfl ?_
          refine E_skip ?_
          refine thenQ_n ?_
          refine E_seq ?_
          refine E_block ?_
          refine E_seqR ?_
          refine EL_val (R_move rfl) rfl rfl rfl ?_
          refine EL_val (R_move rfl) rfl rfl rfl ?_
          refine EL_val (R_indexAddr rfl rfl Try.underlying22 K.sz3 (m := i) rfl hlf) rfl rfl rfl ?_
          refine EL_val (R_load rfl K.ag3 ((by rw [Nat.mul_one]; exact hcell))) rfl rfl rfl ?_
          refine EL_step rfl ?_
          refine EO_call K.bd38 rfl rfl (hda _) ?_
          rintro _ _ ⟨rfl, rfl⟩
          refine EL_val (R_not rfl) rfl rfl rfl ?_
          refine EL_nil ?_
          refine E_cond_f rfl ?_
          refine E_skip ?_
          refine inB_n ?_
          refine thenQ_n ?_
          refine E_region ?_
          refine EL_val (R_move rfl) rfl rfl rfl ?_
          first | refine EL_val (R_inc rfl (by omega)) rfl rfl rfl ?_ | refine EL_val (R_add_in rfl rfl (by omega) (by omega)) rfl rfl rfl ?_
          refine EL_val (R_assign rfl) rfl rfl rfl ?_
          refine EL_nil ?_
          refine thenQ_n ?_
          refine ⟨rfl, n - (i + 1), [(0, .slice (some ⟨g, o, none⟩) fs.length c), (1, .int .i64 (n : Int)), (2, .slice B ks.length c'), (7, .int .i64 ((i + 1 : Nat) : Int))], by omega, ⟨rfl, rfl, rfl, rfl, trivial⟩, i + 1, by omega, rfl, rfl, rfl, fun j hj hji => ?_⟩
          by_cases he : j = i
          · subst he; exact hd
          · exact hg' j hj (by omega)
        · have hd' : dataI fs[i] = false := by simpa using hd
          have hno : ¬ FreshTo ks fs n := fun h => hd (h i hlf hlt).1
          have hda : ∀ w, Ret Try.prog 38 [.int .i64 fs[i]] w fun v w' => v = .bool false ∧ w = w' := fun w => by have := rdata_ok (w := w) (n := fs[i]); rwa [hd'] at this
          refine E_seq ?_
          refine E_seqR ?_
          refine EL_val (R_move rfl) rfl rfl rfl ?_
          refine EL_val (R_move rfl) rfl rfl rfl ?_
          first | refine EL_val (R_lss_t rfl rfl (by omega)) rfl rfl rfl ?_ | refine EL_val (R_lss_f rfl rfl (by omega)) rfl rfl rfl ?_
          refine EL_nil ?_
          refine E_cond_t rfl ?_
          refine E_skip ?_
          refine thenQ_n ?_
          refine E_seq ?_
          refine E_block ?_
          refine E_seqR ?_
          refine EL_val (R_move rfl) rfl rfl rfl ?_
          refine EL_val (R_move rfl) rfl rfl rfl ?_
          refine EL_val (R_indexAddr rfl rfl Try.underlying22 K.sz3 (m := i) rfl hlf) rfl rfl rfl ?_
          refine EL_val (R_load rfl K.ag3 ((by rw [Nat.mul_one]; exact hcell))) rfl rfl rfl ?_
          refine EL_step rfl ?_
          refine EO_call K.bd38 rfl rfl (hda _) ?_
          rintro _ _ ⟨rfl, rfl⟩
          refine EL_val (R_not rfl) rfl rfl rfl ?_
          refine EL_nil ?_
          refine E_cond_t rfl ?_
          refine E_seqR ?_
          refine EL_val (R_assign rfl) rfl rfl rfl ?_
          refine EL_nil ?_
          refine E_ret ?_
          refine inB_r (thenQ_r (thenQ_r (inB_r (thenQ_r ?_))))
          refine ret1 (.inr rfl) rfl rfl ?_
          exact ⟨by rw [freshE, if_neg hs, if_neg hno], Mods.refl _ _⟩
      · have hi' : n = i := by omega
        subst hi'
        refine E_seq ?_
        refine E_seqR ?_
        refine EL_val (R_move rfl) rfl rfl rfl ?_
        refine EL_val (R_move rfl) rfl rfl rfl ?_
        first | refine EL_val (R_lss_t rfl rfl (by omega)) rfl rfl rfl ?_ | refine EL_val (R_lss_f rfl rfl (by omega)) rfl rfl rfl ?_
        refine EL_nil ?_
        refine E_cond_f rfl ?_
        refine E_exit ?_
        refine thenQ_e ?_
        refine thenQ_e ?_
        refine inB_eq rfl ?_
        refine thenQ_n ?_
        exact ⟨rfl, [(0, .slice A fs.length c), (1, .int .i64 (n : Int)), (2, .slice B ks.length c')], ⟨rfl, rfl, rfl, trivial⟩, rfl, rfl, hg'⟩
    rintro e0 w1 ⟨rfl, rfl, hd⟩
    have hiff := good_app hg (by omega) hd
    obtain ⟨l, hl'⟩ : ∃ l, l = ks ++ fs.take n := ⟨_, rfl⟩
    have htl : (fs.take n).length = n := by simp; omega
    have hll : l.length = ks.length + n := by rw [hl']; simp; omega
    rw [← hl'] at hiff
    have key : ∀ {w' : World} {v : Value}, OI w1.heap.size w' v l → Ret Try.prog 20 [v] w' fun v w'' => v = .bool (decide (Good l)) ∧ Mods No w' w'' := fun {w' v} h => by
      obtain ⟨A', c', rfl, _, his⟩ := h.sl
      exact apart_ok his (by omega)
    by_cases hgl : Good l
    · rw [decide_eq_true hgl] at key
      refine E_seq ?_
      refine E_seqD (fun w' => [(0, fun w'' => w'' = w')]) 9 K.mix rfl ?_
      intro w2 hm2 hh2
      refine EA_pure 1 rfl (fun _ => R_move rfl) (by kernel_rfl) rfl rfl rfl ?_
      refine EA_pure 3 rfl (fun _ => R_move rfl) (by kernel_rfl) rfl rfl rfl ?_
      refine EA_pure 4 rfl (fun _ => R_move rfl) (by kernel_rfl) rfl rfl rfl ?_
      refine EA_pure 5 rfl (fun _ => R_sliceH (n) (by omega) (by omega) rfl rfl Try.underlying22 K.sz3 (by first | (rintro _ ⟨⟩ <;> rfl) | assumption)) (by kernel_rfl) rfl rfl rfl ?_
      refine EA_one 0 rfl (by kernel_rfl) rfl ⟨fun _ => rfl, trivial⟩ ?_
      refine EO_buildSlice0 Try.underlying22 K.sz3 rfl ?_
      intro w3 hn3
      refine EA_one 2 rfl (by kernel_rfl) rfl (Holds.done (by kernel_rfl)) ?_
      refine EO_append rfl rfl Try.underlying22 K.sz3 K.zr3 K.by3 rfl (by decide) (hn3.own0 (m := 0) rfl (Nat.le_refl _) (by simp only [maxLen]; omega)) (hks.no (hm2.trans hn3.mods)) ival_one (by simp only [maxLen]; omega) (by omega) (by have := hn3.size; omega) rfl ?_
      intro v4 w4 ho4 hm4 hat4
      (have hoi4 : OI w2.heap.size w4 v4 ks := (by have := OI.appd (xs := []) (by simpa [ival] using ho4); simpa using this); have hm14 : Mods No w1 w4 := hm2.trans (own_newer (w0 := w2) (hn3.own0 (m := 0) (size := 1) rfl (Nat.le_refl _) (by simp only [maxLen]; omega)) hn3.mods hm4))
      refine EA_one 6 rfl (by kernel_rfl) rfl (Holds.done (by kernel_rfl)) ?_
      refine EO_append rfl rfl Try.underlying22 K.sz3 K.zr3 K.by3 rfl (by decide) hoi4 (by have := (hk.no hm14).take n; unfold IS at this; rw [htl] at this; exact this) ival_one (by simp only [maxLen]; omega) (by omega) (by have := hm4.size; have := hn3.size; omega) rfl ?_
      intro v5 w5 ho5 hm5 hat5
      (have hoi5 : OI w1.heap.size w5 v5 l := (by have h1 : w5.ownsRow w2.heap.size 3 1 v5 (ks.length + (fs.take n).length) (ival ks ++ ival (fs.take n)) := (by rw [htl]; exact ho5); have h2 := OI.appd h1; rw [← hl'] at h2; exact own_mono h2 hm2.size); have hm15 : Mods No w1 w5 := own_newer (own_mono hoi4 hm2.size) hm14 hm5)
      refine EA_one 7 rfl (by kernel_rfl) rfl (Holds.done (by kernel_rfl)) ?_
      refine EO_call K.bd20 rfl rfl (key hoi5) ?_
      rintro _ w6 ⟨rfl, hm6⟩
      refine EA_pure 8 rfl (fun _ => R_not rfl) (by kernel_rfl) rfl rfl rfl ?_
      refine EA_done (by kernel_rfl) (Holds.done (by kernel_rfl)) ?_
      refine E_cond_f rfl ?_
      refine E_skip ?_
      refine thenQ_n ?_
      refine E_seqR ?_
      refine EL_val (R_assign rfl) rfl rfl rfl ?_
      refine EL_nil ?_
      refine E_ret ?_
      refine ret1 (.inr rfl) rfl rfl ?_
      exact ⟨by rw [freshE, if_neg hs, if_pos (hiff.1 hgl)], hm15.trans hm6⟩
    · rw [decide_eq_false hgl] at key
      refine E_seq ?_
      refine E_seqD (fun w' => [(0, fun w'' => w'' = w')]) 9 K.mix rfl ?_
      intro w2 hm2 hh2
      refine EA_pure 1 rfl (fun _ => R_move rfl) (by kernel_rfl) rfl rfl rfl ?_
      refine EA_pure 3 rfl (fun _ => R_move rfl) (by kernel_rfl) rfl rfl rfl ?_
      refine EA_pure 4 rfl (fun _ => R_move rfl) (by kernel_rfl) rfl rfl rfl ?_
      refine EA_pure 5 rfl (fun _ => R_sliceH (n) (by omega) (by omega) rfl rfl Try.underlying22 K.sz3 (by first | (rintro _ ⟨⟩ <;> rfl) | assumption)) (by kernel_rfl) rfl rfl rfl ?_
      refine EA_one 0 rfl (by kernel_rfl) rfl ⟨fun _ => rfl, trivial⟩ ?_
      refine EO_buildSlice0 Try.underlying22 K.sz3 rfl ?_
      intro w3 hn3
      refine EA_one 2 rfl (by kernel_rfl) rfl (Holds.done (by kernel_rfl)) ?_
      refine EO_append rfl rfl Try.underlying22 K.sz3 K.zr3 K.by3 rfl (by decide) (hn3.own0 (m := 0) rfl (Nat.le_refl _) (by simp only [maxLen]; omega)) (hks.no (hm2.trans hn3.mods)) ival_one (by simp only [maxLen]; omega) (by omega) (by have := hn3.size; omega) rfl ?_
      intro v4 w4 ho4 hm4 hat4
      (have hoi4 : OI w2.heap.size w4 v4 ks := (by have := OI.appd (xs := []) (by simpa [ival] using ho4); simpa using this); have hm14 : Mods No w1 w4 := hm2.trans (own_newer (w0 := w2) (hn3.own0 (m := 0) (size := 1) rfl (Nat.le_refl _) (by simp only [maxLen]; omega)) hn3.mods hm4))
      refine EA_one 6 rfl (by kernel_rfl) rfl (Holds.done (by kernel_rfl)) ?_
      refine EO_append rfl rfl Try.underlying22 K.sz3 K.zr3 K.by3 rfl (by decide) hoi4 (by have := (hk.no hm14).take n; unfold IS at this; rw [htl] at this; exact this) ival_one (by simp only [maxLen]; omega) (by omega) (by have := hm4.size; have := hn3.size; omega) rfl ?_
      intro v5 w5 ho5 hm5 hat5
      (have hoi5 : OI w1.heap.size w5 v5 l := (by have h1 : w5.ownsRow w2.heap.size 3 1 v5 (ks.length + (fs.take n).length) (ival ks ++ ival (fs.take n)) := (by rw [htl]; exact ho5); have h2 := OI.appd h1; rw [← hl'] at h2; exact own_mono h2 hm2.size); have hm15 : Mods No w1 w5 := own_newer (own_mono hoi4 hm2.size) hm14 hm5)
      refine EA_one 7 rfl (by kernel_rfl) rfl (Holds.done (by kernel_rfl)) ?_
      refine EO_call K.bd20 rfl rfl (key hoi5) ?_
      rintro _ w6 ⟨rfl, hm6⟩
      refine EA_pure 8 rfl (fun _ => R_not rfl) (by kernel_rfl) rfl rfl rfl ?_
      refine EA_done (by kernel_rfl) (Holds.done (by kernel_rfl)) ?_
      refine E_cond_t rfl ?_
      refine E_seqR ?_
      refine EL_val (R_assign rfl) rfl rfl rfl ?_
      refine EL_nil ?_
      refine E_ret ?_
      refine thenQ_r ?_
      refine ret1 (.inr rfl) rfl rfl ?_
      exact ⟨by rw [freshE, if_neg hs, if_neg (fun h => hgl (hiff.2 h))], hm15.trans hm6⟩
end Go.Proofs.Ytifmdcjncbbcgaa
