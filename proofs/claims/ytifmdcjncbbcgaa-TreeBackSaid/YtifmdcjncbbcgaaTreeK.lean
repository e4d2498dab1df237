/- Lists put one behind the other, apart; blocks found (packages slices, tree). -/
import Derived.Test.YtifmdcjncbbcgaaTreeJ
set_option linter.unusedVariables false
set_option linter.unusedSimpArgs false
set_option maxRecDepth 100000
namespace Go.Proofs.Ytifmdcjncbbcgaa
open Go.EW Go.RowKit

theorem concat_ok {w : World} {A A' : Option Addr} {a b : List Int} {c c' gs : Nat} (hs : Bk w gs #[.slice A a.length c, .slice A' b.length c'] 22) (ha : IS w A a) (hb : IS w A' b) (hl : a.length + b.length ≤ 100000) :
    Ret Try.prog 47 [.slice (some ⟨gs, 0, none⟩) 2 2] w fun v w' => OI w.heap.size w' v (a ++ b) ∧ Mods No w w' := by
  obtain ⟨sz, hsz⟩ : ∃ sz : Nat → Nat, sz = fun i => if i = 0 then 0 else if i = 1 then a.length else a.length + b.length := ⟨_, rfl⟩
  have z0 : sz 0 = 0 := by rw [hsz]; rfl
  have z1 : sz 1 = a.length := by rw [hsz]; rfl
  have z2 : sz 2 = a.length + b.length := by rw [hsz]; rfl
  obtain ⟨ls, hls⟩ : ∃ ls : Nat → List Int, ls = fun i => if i = 0 then [] else if i = 1 then a else a ++ b := ⟨_, rfl⟩
  have l0 : ls 0 = [] := by rw [hls]; rfl
  have l1 : ls 1 = a := by rw [hls]; rfl
  have l2 : ls 2 = a ++ b := by rw [hls]; rfl
  clear hsz hls
  refine Ret.enter Try.func47 rfl Try.ntmps47 rfl ?_
  simp only [argEnv, Nat.reduceAdd]
  refine E_seqR ?_
  refine EL_val (R_assign rfl) rfl rfl rfl ?_
  refine EL_nil ?_
  refine E_seqR ?_
  refine EL_val (R_assign rfl) rfl rfl rfl ?_
  refine EL_nil ?_
  refine E_seq ?_
  refine E_seqR ?_
  refine EL_val (R_move rfl) rfl rfl rfl ?_
  refine EL_val (R_lenSlice rfl Try.underlying92) rfl rfl rfl ?_
  refine EL_val (R_move rfl) rfl rfl rfl ?_
  refine EL_nil ?_
  refine E_cut (fun e0 w' => e0 = [(0, .slice (some ⟨gs, 0, none⟩) 2 2), (3, .int .i64 ((a.length + b.length : Nat) : Int))] ∧ w' = w) ?_ ?_
  · refine E_block ?_
    refine E_loop (fun m' e' w' => ∃ i, i ≤ 2 ∧ m' = 2 - i ∧ e' = [(0, .slice (some ⟨gs, 0, none⟩) 2 2), (3, .int .i64 (sz (i) : Int)), (9, .slice (some ⟨gs, 0, none⟩) 2 2), (10, .int .i64 2), (11, .int .i64 ((i : Nat) : Int))] ∧ w' = w) 2 [(0, .slice (some ⟨gs, 0, none⟩) 2 2), (3, .int .i64 (sz (0) : Int)), (9, .slice (some ⟨gs, 0, none⟩) 2 2), (10, .int .i64 2), (11, .int .i64 ((0 : Nat) : Int))] ⟨rfl, by rw [z0]; rfl, rfl, rfl, rfl, trivial⟩ ⟨0, by omega, rfl, rfl, rfl⟩ ?_
    rintro m' e w2 ⟨i, hi, rfl, rfl, rfl⟩
    rcases (by omega : i = 0 ∨ i = 1 ∨ i = 2) with rfl | rfl | rfl
    · skip
      refine E_seqR ?_
      first | refine EL_val (R_lss_t rfl rfl (by omega)) rfl rfl rfl ?_ | refine EL_val (R_lss_f rfl rfl (by omega)) rfl rfl rfl ?_
      refine EL_nil ?_
      refine E_seq ?_
      refine E_cond_t rfl ?_
      refine E_skip ?_
      refine thenQ_n ?_
      refine E_seq ?_
      refine E_block ?_
      refine E_seqR ?_
      refine EL_val (R_indexAddr rfl rfl Try.underlying92 K.sz22 (m := 0) rfl (by omega)) rfl rfl rfl ?_
      refine EL_val (R_load rfl K.ag22 (hs.cell rfl)) rfl rfl rfl ?_
      refine EL_val (R_assign rfl) rfl rfl rfl ?_
      refine EL_nil ?_
      refine E_seqR ?_
      refine EL_val (R_move rfl) rfl rfl rfl ?_
      refine EL_val (R_move rfl) rfl rfl rfl ?_
      refine EL_val (R_lenSlice rfl Try.underlying22) rfl rfl rfl ?_
      refine EL_val (R_addE ((sz 1 : Int)) rfl rfl (by omega) (by omega) (by omega)) rfl rfl rfl ?_
      refine EL_val (R_assign rfl) rfl rfl rfl ?_
      refine EL_nil ?_
      refine E_seqR ?_
      refine EL_val (R_move rfl) rfl rfl rfl ?_
      first | refine EL_val (R_lss_t rfl rfl (by omega)) rfl rfl rfl ?_ | refine EL_val (R_lss_f rfl rfl (by omega)) rfl rfl rfl ?_
      refine EL_nil ?_
      refine E_cond_f rfl ?_
      refine E_skip ?_
      refine inB_n ?_
      refine thenQ_n ?_
      refine E_region ?_
      first | refine EL_val (R_inc rfl (by omega)) rfl rfl rfl ?_ | refine EL_val (R_add_in rfl rfl (by omega) (by omega)) rfl rfl rfl ?_
      refine EL_val (R_move rfl) rfl rfl rfl ?_
      refine EL_nil ?_
      refine thenQ_n ?_
      exact ⟨rfl, 1, [(0, .slice (some ⟨gs, 0, none⟩) 2 2), (3, .int .i64 (sz (1) : Int)), (9, .slice (some ⟨gs, 0, none⟩) 2 2), (10, .int .i64 2), (11, .int .i64 ((1 : Nat) : Int))], by omega, ⟨rfl, rfl, rfl, rfl, rfl, trivial⟩, 1, by omega, rfl, rfl, rfl⟩
    · skip
      refine E_seqR ?_
      first | refine EL_val (R_lss_t rfl rfl (by omega)) rfl rfl rfl ?_ | refine EL_val (R_lss_f rfl rfl (by omega)) rfl rfl rfl ?_
      refine EL_nil ?_
      refine E_seq ?_
      refine E_cond_t rfl ?_
      refine E_skip ?_
      refine thenQ_n ?_
      refine E_seq ?_
      refine E_block ?_
      refine E_seqR ?_
      refine EL_val (R_indexAddr rfl rfl Try.underlying92 K.sz22 (m := 1) rfl (by omega)) rfl rfl rfl ?_
      refine EL_val (R_load rfl K.ag22 (hs.cell rfl)) rfl rfl rfl ?_
      refine EL_val (R_assign rfl) rfl rfl rfl ?_
      refine EL_nil ?_
      refine E_seqR ?_
      refine EL_val (R_move rfl) rfl rfl rfl ?_
      refine EL_val (R_move rfl) rfl rfl rfl ?_
      refine EL_val (R_lenSlice rfl Try.underlying22) rfl rfl rfl ?_
      refine EL_val (R_addE ((sz 2 : Int)) rfl rfl (by omega) (by omega) (by omega)) rfl rfl rfl ?_
      refine EL_val (R_assign rfl) rfl rfl rfl ?_
      refine EL_nil ?_
      refine E_seqR ?_
      refine EL_val (R_move rfl) rfl rfl rfl ?_
      first | refine EL_val (R_lss_t rfl rfl (by omega)) rfl rfl rfl ?_ | refine EL_val (R_lss_f rfl rfl (by omega)) rfl rfl rfl ?_
      refine EL_nil ?_
      refine E_cond_f rfl ?_
      refine E_skip ?_
      refine inB_n ?_
      refine thenQ_n ?_
      refine E_region ?_
      first | refine EL_val (R_inc rfl (by omega)) rfl rfl rfl ?_ | refine EL_val (R_add_in rfl rfl (by omega) (by omega)) rfl rfl rfl ?_
      refine EL_val (R_move rfl) rfl rfl rfl ?_
      refine EL_nil ?_
      refine thenQ_n ?_
      exact ⟨rfl, 0, [(0, .slice (some ⟨gs, 0, none⟩) 2 2), (3, .int .i64 (sz (2) : Int)), (9, .slice (some ⟨gs, 0, none⟩) 2 2), (10, .int .i64 2), (11, .int .i64 ((2 : Nat) : Int))], by omega, ⟨rfl, rfl, rfl, rfl, rfl, trivial⟩, 2, by omega, rfl, rfl, rfl⟩
    · skip
      refine E_seqR ?_
      first | refine EL_val (R_lss_t rfl rfl (by omega)) rfl rfl rfl ?_ | refine EL_val (R_lss_f rfl rfl (by omega)) rfl rfl rfl ?_
      refine EL_nil ?_
      refine E_seq ?_
      refine E_cond_f rfl ?_
      refine E_exit ?_
      refine thenQ_e ?_
      refine thenQ_e ?_
      refine inB_eq rfl ?_
      refine thenQ_n ?_
      exact ⟨rfl, [(0, .slice (some ⟨gs, 0, none⟩) 2 2), (3, .int .i64 ((a.length + b.length : Nat) : Int))], ⟨rfl, by rw [← z2]; rfl, trivial⟩, rfl, rfl⟩
  rintro e0 w1 ⟨rfl, rfl⟩

  refine E_seqR ?_
  refine EL_val (R_move rfl) rfl rfl rfl ?_
  refine EL_step rfl ?_
  refine EO_call K.bd58 rfl rfl (grow_ok (by omega)) ?_
  rintro v2 w2 ⟨ho2, hm2⟩
  refine EL_val (R_assign rfl) rfl rfl rfl ?_
  refine EL_nil ?_
  refine E_seq ?_
  refine E_seqR ?_
  refine EL_val (R_move rfl) rfl rfl rfl ?_
  refine EL_val (R_lenSlice rfl Try.underlying92) rfl rfl rfl ?_
  refine EL_val (R_move rfl) rfl rfl rfl ?_
  refine EL_nil ?_
  refine E_cut (fun e0 w' => ∃ v, e0 = [(6, v)] ∧ OI w1.heap.size w' v (a ++ b) ∧ Mods No w1 w') ?_ ?_
  · refine E_block ?_
    refine E_loop (fun m' e' w' => ∃ i v, i ≤ 2 ∧ m' = 2 - i ∧ e' = [(6, v), (25, .slice (some ⟨gs, 0, none⟩) 2 2), (26, .int .i64 2), (27, .int .i64 ((i : Nat) : Int))] ∧ OI w1.heap.size w' v (ls i) ∧ Mods No w1 w') 2 [(6, v2), (25, .slice (some ⟨gs, 0, none⟩) 2 2), (26, .int .i64 2), (27, .int .i64 ((0 : Nat) : Int))] ⟨rfl, rfl, rfl, rfl, trivial⟩ ⟨0, v2, by omega, rfl, rfl, by rw [l0]; exact ho2, hm2⟩ ?_
    clear ho2 hm2
    rintro m' e w3 ⟨i, v, hi, rfl, rfl, ho, hm⟩
    have hsz := hm.size
    rcases (by omega : i = 0 ∨ i = 1 ∨ i = 2) with rfl | rfl | rfl
    · rw [l0] at ho

      refine E_seqR ?_
      first | refine EL_val (R_lss_t rfl rfl (by omega)) rfl rfl rfl ?_ | refine EL_val (R_lss_f rfl rfl (by omega)) rfl rfl rfl ?_
      refine EL_nil ?_
      refine E_seq ?_
      refine E_cond_t rfl ?_
      refine E_skip ?_
      refine thenQ_n ?_
      refine E_seq ?_
      refine E_block ?_
      refine E_seqR ?_
      refine EL_val (R_indexAddr rfl rfl Try.underlying92 K.sz22 (m := 0) rfl (by omega)) rfl rfl rfl ?_
      refine EL_val (R_load rfl K.ag22 ((hm.bk' hs).cell rfl)) rfl rfl rfl ?_
      refine EL_val (R_assign rfl) rfl rfl rfl ?_
      refine EL_nil ?_
      refine E_region ?_
      refine EL_val (R_move rfl) rfl rfl rfl ?_
      refine EL_val (R_move rfl) rfl rfl rfl ?_
      refine EL_step rfl ?_
      refine EO_append rfl rfl Try.underlying22 K.sz3 K.zr3 K.by3 rfl (by decide) ho (ha.no hm) ival_one (by simp only [maxLen, List.length_nil]; omega) (by simp only [List.length_nil]; omega) (by omega) rfl ?_
      intro v4 w4 ho4 hm4 hat4
      refine EL_val (R_assign rfl) rfl rfl rfl ?_
      refine EL_nil ?_
      refine inB_n ?_
      refine thenQ_n ?_
      refine E_region ?_
      first | refine EL_val (R_inc rfl (by omega)) rfl rfl rfl ?_ | refine EL_val (R_add_in rfl rfl (by omega) (by omega)) rfl rfl rfl ?_
      refine EL_val (R_move rfl) rfl rfl rfl ?_
      refine EL_nil ?_
      refine thenQ_n ?_
      exact ⟨rfl, 1, [(6, v4), (25, .slice (some ⟨gs, 0, none⟩) 2 2), (26, .int .i64 2), (27, .int .i64 ((1 : Nat) : Int))], by omega, ⟨rfl, rfl, rfl, rfl, trivial⟩, 1, v4, by omega, rfl, rfl, by rw [l1]; have := OI.appd ho4; simpa using this, own_newer ho hm hm4⟩
    · rw [l1] at ho

      refine E_seqR ?_
      first | refine EL_val (R_lss_t rfl rfl (by omega)) rfl rfl rfl ?_ | refine EL_val (R_lss_f rfl rfl (by omega)) rfl rfl rfl ?_
      refine EL_nil ?_
      refine E_seq ?_
      refine E_cond_t rfl ?_
      refine E_skip ?_
      refine thenQ_n ?_
      refine E_seq ?_
      refine E_block ?_
      refine E_seqR ?_
      refine EL_val (R_indexAddr rfl rfl Try.underlying92 K.sz22 (m := 1) rfl (by omega)) rfl rfl rfl ?_
      refine EL_val (R_load rfl K.ag22 ((hm.bk' hs).cell rfl)) rfl rfl rfl ?_
      refine EL_val (R_assign rfl) rfl rfl rfl ?_
      refine EL_nil ?_
      refine E_region ?_
      refine EL_val (R_move rfl) rfl rfl rfl ?_
      refine EL_val (R_move rfl) rfl rfl rfl ?_
      refine EL_step rfl ?_
      refine EO_append rfl rfl Try.underlying22 K.sz3 K.zr3 K.by3 rfl (by decide) ho (hb.no hm) ival_one (by simp only [maxLen]; omega) (by omega) (by omega) rfl ?_
      intro v4 w4 ho4 hm4 hat4
      refine EL_val (R_assign rfl) rfl rfl rfl ?_
      refine EL_nil ?_
      refine inB_n ?_
      refine thenQ_n ?_
      refine E_region ?_
      first | refine EL_val (R_inc rfl (by omega)) rfl rfl rfl ?_ | refine EL_val (R_add_in rfl rfl (by omega) (by omega)) rfl rfl rfl ?_
      refine EL_val (R_move rfl) rfl rfl rfl ?_
      refine EL_nil ?_
      refine thenQ_n ?_
      exact ⟨rfl, 0, [(6, v4), (25, .slice (some ⟨gs, 0, none⟩) 2 2), (26, .int .i64 2), (27, .int .i64 ((2 : Nat) : Int))], by omega, ⟨rfl, rfl, rfl, rfl, trivial⟩, 2, v4, by omega, rfl, rfl, by rw [l2]; exact OI.appd ho4, own_newer ho hm hm4⟩
    · rw [l2] at ho

      refine E_seqR ?_
      first | refine EL_val (R_lss_t rfl rfl (by omega)) rfl rfl rfl ?_ | refine EL_val (R_lss_f rfl rfl (by omega)) rfl rfl rfl ?_
      refine EL_nil ?_
      refine E_seq ?_
      refine E_cond_f rfl ?_
      refine E_exit ?_
      refine thenQ_e ?_
      refine thenQ_e ?_
      refine inB_eq rfl ?_
      refine thenQ_n ?_
      exact ⟨rfl, [(6, v)], ⟨rfl, trivial⟩, v, rfl, ho, hm⟩
  rintro e0 w3 ⟨v, rfl, ho, hm⟩

  refine E_seqR ?_
  refine EL_val (R_move rfl) rfl rfl rfl ?_
  refine EL_val (R_assign rfl) rfl rfl rfl ?_
  refine EL_nil ?_
  refine E_ret ?_
  refine ret1 (.inr rfl) rfl rfl ?_
  exact ⟨ho, hm⟩
/-- no number but 0 twice -/
def Dist (l : List Int) : Prop := ∀ j (h : j < l.length), l[j] ≠ 0 → l[j] ∉ l.take j
instance (l : List Int) : Decidable (Dist l) := inferInstanceAs (Decidable (∀ j (h : j < l.length), l[j] ≠ 0 → l[j] ∉ l.take j))
theorem tapart_ok {w : World} {A A' : Option Addr} {a b : List Int} {c c' : Nat} (ha : IS w A a) (hb : IS w A' b) (hl : a.length + b.length ≤ 100000) (hd : Dist (a ++ b)) :
    Ret Try.prog 34 [.slice A a.length c, .slice A' b.length c'] w fun v w' => v = .bool true ∧ Mods No w w' := by
  obtain ⟨r, hr⟩ : ∃ r, r = w.heap.size := ⟨_, rfl⟩
  obtain ⟨ks, hks⟩ : ∃ ks, ks = a ++ b := ⟨_, rfl⟩
  have hkl : ks.length ≤ 100000 := by rw [hks, List.length_append]; exact hl
  refine Ret.enter Try.func34 rfl Try.ntmps34 rfl ?_
  simp only [argEnv, Nat.reduceAdd]
  refine E_seqR ?_
  refine EL_val (R_assign rfl) rfl rfl rfl ?_
  refine EL_nil ?_
  refine E_seqR ?_
  refine EL_step rfl ?_
  refine EO_makeMap rfl ?_
  intro w1 hn1
  refine EL_val (R_assign rfl) rfl rfl rfl ?_
  refine EL_nil ?_
  refine E_seq ?_
  refine E_seqR ?_
  refine EL_val (R_move rfl) rfl rfl rfl ?_
  refine EL_val (R_move rfl) rfl rfl rfl ?_
  refine EL_step rfl ?_
  refine EO_buildSlice Try.underlying92 K.zr22 K.sz22 rfl rfl rfl (cells := #[.slice A a.length c, .slice A' b.length c']) (by kernel_rfl) rfl ?_
  intro w2 hn2
  refine EL_step rfl ?_
  refine EO_call K.bd47 rfl rfl (concat_ok hn2.bk (ha.no (hn1.mods.trans hn2.mods)) (hb.no (hn1.mods.trans hn2.mods)) hl) ?_
  rintro v3 w3 ⟨ho3, hm3⟩
  (rw [← hks] at ho3; obtain ⟨A3, c3, rfl, _, hk3⟩ := ho3.sl)
  refine EL_val (R_lenSlice rfl Try.underlying22) rfl rfl rfl ?_
  refine EL_val (R_move rfl) rfl rfl rfl ?_
  refine EL_nil ?_
  have hms := ((MSet.new hn1).no hn2.mods id).no hm3 id
  have hm03 : Mods No w w3 := (hn1.mods.trans hn2.mods).trans hm3
  rw [← hks] at hd
  rw [← hr] at hms ⊢
  clear hn1 hn2 hm3 ho3
  have hms0 : MSet w3 r (ks.take 0).reverse := hms
  refine E_cut (fun e0 w' => Mods No w w') ?_ ?_
  · refine E_block ?_
    refine E_loop (fun m' e' w' => ∃ i, i ≤ ks.length ∧ m' = ks.length - i ∧ e' = [(5, .map (some r)), (14, .slice (A3) ks.length c3), (15, .int .i64 (ks.length : Int)), (16, .int .i64 ((i : Nat) : Int))] ∧ IS w' A3 ks ∧ MSet w' r (ks.take i).reverse ∧ Mods No w w') ks.length [(5, .map (some r)), (14, .slice (A3) ks.length c3), (15, .int .i64 (ks.length : Int)), (16, .int .i64 ((0 : Nat) : Int))] ⟨rfl, rfl, rfl, rfl, trivial⟩ ⟨0, by omega, by omega, rfl, hk3, hms0, hm03⟩ ?_
    clear hms hms0 hk3 hm03
    rintro m' e w2 ⟨i, hi, rfl, rfl, hk, hms, hm⟩
    by_cases hlt : i < ks.length
    · obtain ⟨g, o, rfl, hcell⟩ := hk.cell hlt
      have htk : ks.take (i + 1) = ks.take i ++ [ks[i]] := by rw [List.take_succ_eq_append_getElem hlt]
      have hrev : (ks.take (i + 1)).reverse = ks[i] :: (ks.take i).reverse := by rw [htk]; simp
      have hsz := hm.size
      by_cases hin : ks[i] ∈ ks.take i
      · have hdec : decide (ks[i] ∈ (ks.take i).reverse) = true := decide_eq_true (by simpa using hin)
        have h0 : ks[i] = 0 := Classical.byContradiction fun h0 => hd i hlt h0 hin

        refine E_seqR ?_
        first | refine EL_val (R_lss_t rfl rfl (by omega)) rfl rfl rfl ?_ | refine EL_val (R_lss_f rfl rfl (by omega)) rfl rfl rfl ?_
        refine EL_nil ?_
        refine E_seq ?_
        refine E_cond_t rfl ?_
        refine E_skip ?_
        refine thenQ_n ?_
        refine E_seq ?_
        refine E_block ?_
        refine E_seqR ?_
        refine EL_val (R_indexAddr rfl rfl Try.underlying22 K.sz3 (m := i) rfl hlt) rfl rfl rfl ?_
        refine EL_val (R_load rfl K.ag3 ((by rw [Nat.mul_one]; exact hcell))) rfl rfl rfl ?_
        refine EL_val (R_assign rfl) rfl rfl rfl ?_
        refine EL_nil ?_
        refine E_seq ?_
        refine E_seqR ?_
        refine EL_val (R_move rfl) rfl rfl rfl ?_
        refine EL_val (R_move rfl) rfl rfl rfl ?_
        refine EL_val (R_lookupSet hms hdec Try.underlying65 Try.underlying3 K.zr66 rfl rfl) rfl rfl rfl ?_
        refine EL_val (R_move rfl) rfl rfl rfl ?_
        refine EL_val (R_extract rfl rfl) rfl rfl rfl ?_
        refine EL_val (R_extract rfl rfl) rfl rfl rfl ?_
        refine EL_step rfl ?_
        refine EO_alloc K.zr66 rfl ?_
        intro w3 hn3
        refine EL_step rfl ?_
        refine EO_storeAggB hn3.bk rfl rfl K.sz66 rfl rfl ?_
        intro w4 hu4
        refine EL_val (R_assign rfl) rfl rfl rfl ?_
        refine EL_nil ?_
        refine E_seqR ?_
        refine EL_val (R_move rfl) rfl rfl rfl ?_
        refine EL_val (R_move rfl) rfl rfl rfl ?_
        first | refine EL_val (R_move rfl) rfl rfl rfl ?_ | refine EL_not rfl rfl rfl ?_
        first | refine EL_val (R_neq_t rfl rfl (by omega)) rfl rfl rfl ?_ | refine EL_val (R_neq_f rfl rfl (by omega)) rfl rfl rfl ?_ | refine EL_not rfl rfl rfl ?_
        first | refine EL_val (R_pick_t rfl rfl) rfl rfl rfl ?_ | refine EL_val (R_pick_f rfl rfl) rfl rfl rfl ?_
        refine EL_nil ?_
        refine E_cond_f rfl ?_
        refine E_skip ?_
        refine thenQ_n ?_
        refine E_region ?_
        refine EL_val (R_move rfl) rfl rfl rfl ?_
        refine EL_val (R_move rfl) rfl rfl rfl ?_
        refine EL_val (R_build K.zr66 K.pl66 rfl rfl) rfl rfl rfl ?_
        refine EL_step rfl ?_
        refine EO_mapUpdateSet (hms.no (hn3.mods.trans' hu4.mods (fun k hk e => by omega)) id) Try.underlying65 Try.underlying3 rfl rfl rfl ?_
        intro w5 hms5 hm5 hs5
        refine EL_nil ?_
        refine inB_n ?_
        refine thenQ_n ?_
        refine E_region ?_
        first | refine EL_val (R_inc rfl (by omega)) rfl rfl rfl ?_ | refine EL_val (R_add_in rfl rfl (by omega) (by omega)) rfl rfl rfl ?_
        refine EL_val (R_move rfl) rfl rfl rfl ?_
        refine EL_nil ?_
        refine thenQ_n ?_
        have hm24 : Mods No w2 w4 := hn3.mods.trans' hu4.mods (fun k hk e => by omega)
        exact ⟨rfl, ks.length - (i + 1), [(5, .map (some r)), (14, .slice (some ⟨g, o, none⟩) ks.length c3), (15, .int .i64 (ks.length : Int)), (16, .int .i64 ((i + 1 : Nat) : Int))], by omega, ⟨rfl, rfl, rfl, rfl, trivial⟩, i + 1, by omega, rfl, rfl, (hms.no hm24 id).src hm5 (hk.no hm24), hrev ▸ hms5, (hm.trans hm24).trans' hm5 (fun k hk e => by omega)⟩
      · have hdec : decide (ks[i] ∈ (ks.take i).reverse) = false := decide_eq_false (by simpa using hin)

        refine E_seqR ?_
        first | refine EL_val (R_lss_t rfl rfl (by omega)) rfl rfl rfl ?_ | refine EL_val (R_lss_f rfl rfl (by omega)) rfl rfl rfl ?_
        refine EL_nil ?_
        refine E_seq ?_
        refine E_cond_t rfl ?_
        refine E_skip ?_
        refine thenQ_n ?_
        refine E_seq ?_
        refine E_block ?_
        refine E_seqR ?_
        refine EL_val (R_indexAddr rfl rfl Try.underlying22 K.sz3 (m := i) rfl hlt) rfl rfl rfl ?_
        refine EL_val (R_load rfl K.ag3 ((by rw [Nat.mul_one]; exact hcell))) rfl rfl rfl ?_
        refine EL_val (R_assign rfl) rfl rfl rfl ?_
        refine EL_nil ?_
        refine E_seq ?_
        refine E_seqR ?_
        refine EL_val (R_move rfl) rfl rfl rfl ?_
        refine EL_val (R_move rfl) rfl rfl rfl ?_
        refine EL_val (R_lookupSet hms hdec Try.underlying65 Try.underlying3 K.zr66 rfl rfl) rfl rfl rfl ?_
        refine EL_val (R_move rfl) rfl rfl rfl ?_
        refine EL_val (R_extract rfl rfl) rfl rfl rfl ?_
        refine EL_val (R_extract rfl rfl) rfl rfl rfl ?_
        refine EL_step rfl ?_
        refine EO_alloc K.zr66 rfl ?_
        intro w3 hn3
        refine EL_step rfl ?_
        refine EO_storeAggB hn3.bk rfl rfl K.sz66 rfl rfl ?_
        intro w4 hu4
        refine EL_val (R_assign rfl) rfl rfl rfl ?_
        refine EL_nil ?_
        refine E_seqR ?_
        refine EL_val (R_move rfl) rfl rfl rfl ?_
        refine EL_val (R_move rfl) rfl rfl rfl ?_
        refine EL_not rfl rfl rfl ?_
        refine EL_not rfl rfl rfl ?_
        first | refine EL_val (R_pick_t rfl rfl) rfl rfl rfl ?_ | refine EL_val (R_pick_f rfl rfl) rfl rfl rfl ?_
        refine EL_nil ?_
        refine E_cond_f rfl ?_
        refine E_skip ?_
        refine thenQ_n ?_
        refine E_region ?_
        refine EL_val (R_move rfl) rfl rfl rfl ?_
        refine EL_val (R_move rfl) rfl rfl rfl ?_
        refine EL_val (R_build K.zr66 K.pl66 rfl rfl) rfl rfl rfl ?_
        refine EL_step rfl ?_
        refine EO_mapUpdateSet (hms.no (hn3.mods.trans' hu4.mods (fun k hk e => by omega)) id) Try.underlying65 Try.underlying3 rfl rfl rfl ?_
        intro w5 hms5 hm5 hs5
        refine EL_nil ?_
        refine inB_n ?_
        refine thenQ_n ?_
        refine E_region ?_
        first | refine EL_val (R_inc rfl (by omega)) rfl rfl rfl ?_ | refine EL_val (R_add_in rfl rfl (by omega) (by omega)) rfl rfl rfl ?_
        refine EL_val (R_move rfl) rfl rfl rfl ?_
        refine EL_nil ?_
        refine thenQ_n ?_
        have hm24 : Mods No w2 w4 := hn3.mods.trans' hu4.mods (fun k hk e => by omega)
        exact ⟨rfl, ks.length - (i + 1), [(5, .map (some r)), (14, .slice (some ⟨g, o, none⟩) ks.length c3), (15, .int .i64 (ks.length : Int)), (16, .int .i64 ((i + 1 : Nat) : Int))], by omega, ⟨rfl, rfl, rfl, rfl, trivial⟩, i + 1, by omega, rfl, rfl, (hms.no hm24 id).src hm5 (hk.no hm24), hrev ▸ hms5, (hm.trans hm24).trans' hm5 (fun k hk e => by omega)⟩
    · skip
      refine E_seqR ?_
      first | refine EL_val (R_lss_t rfl rfl (by omega)) rfl rfl rfl ?_ | refine EL_val (R_lss_f rfl rfl (by omega)) rfl rfl rfl ?_
      refine EL_nil ?_
      refine E_seq ?_
      refine E_cond_f rfl ?_
      refine E_exit ?_
      refine thenQ_e ?_
      refine thenQ_e ?_
      refine inB_eq rfl ?_
      refine thenQ_n ?_
      exact ⟨rfl, [(5, .map (some r))], ⟨rfl, trivial⟩, hm⟩
  intro e0 w4 hm

  refine E_seqR ?_
  refine EL_val (R_assign rfl) rfl rfl rfl ?_
  refine EL_nil ?_
  refine E_ret ?_
  refine ret1 (.inr rfl) rfl rfl ?_
  exact ⟨rfl, hm⟩
end Go.Proofs.Ytifmdcjncbbcgaa
