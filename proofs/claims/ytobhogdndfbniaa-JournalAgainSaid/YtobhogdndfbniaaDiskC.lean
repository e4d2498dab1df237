/- The disk: Get, keep, Barrier, Restart. -/
import Derived.Test.YtobhogdndfbniaaDiskB
set_option linter.unusedVariables false
set_option linter.unusedSimpArgs false
set_option maxRecDepth 100000
namespace Go.Proofs.Ytobhogdndfbniaa
open Go.EW Go.RowKit

/-- a slice of 64 bytes in new memory -/
def Fresh64 (w : World) (l : List UInt8) (v : Value) (w' : World) : Prop := w'.ownsRow w.heap.size 5 1 v 64 (bv l).toList ∧ Mods No w w'
def getP (S : DS) (i : Int) (w : World) (v : Value) (w' : World) : Prop :=
  if S.off then v = .tuple #[.slice none 0 0, .int .i64 8] ∧ w = w'
  else if i < 0 ∨ (S.n : Int) ≤ i then v = .tuple #[.slice none 0 0, .int .i64 7] ∧ w = w'
  else ∃ u, v = .tuple #[u, .int .i64 0] ∧ Fresh64 w (nowS S i.toNat) u w'
theorem get_ok {w : World} {B d g : Nat} {C : Array Value} {ov : Nat → Value} {S : DS} (h : DiskAt w B d g C ov S) (i : Int) :
    Ret Try.prog 28 [ptr d, .int .i64 i] w (getP S i w) := by
  cases ho : S.off
  · have hr : readyS S = 0 := by simp [readyS, ho]
    by_cases h0 : i < 0
    · refine Ret.enter Try.func28 rfl Try.ntmps28 rfl ?_
      simp only [argEnv, Nat.reduceAdd]
      refine E_seqR ?_
      refine EL_val (R_assign rfl) rfl rfl rfl ?_
      refine EL_val (R_assign rfl) rfl rfl rfl ?_
      refine EL_nil ?_
      refine E_seq ?_
      refine E_seqR ?_
      refine EL_val (R_move rfl) rfl rfl rfl ?_
      refine EL_step rfl ?_
      refine EO_call K.bd30 rfl rfl (ready_ok h) ?_
      rintro _ _ ⟨rfl, rfl⟩
      refine EL_val (R_assign rfl) rfl rfl rfl ?_
      refine EL_nil ?_
      refine E_seqR ?_
      refine EL_val (R_move rfl) rfl rfl rfl ?_
      first | refine EL_val (R_neq_t rfl rfl (by omega)) rfl rfl rfl ?_ | refine EL_val (R_neq_f rfl rfl (by omega)) rfl rfl rfl ?_
      refine EL_nil ?_
      refine E_cond_f rfl ?_
      refine E_skip ?_
      refine thenQ_n ?_
      refine E_seq ?_
      refine E_seqR ?_
      refine EL_val (R_move rfl) rfl rfl rfl ?_
      first | refine EL_val (R_lss_t rfl rfl (by omega)) rfl rfl rfl ?_ | refine EL_val (R_lss_f rfl rfl (by omega)) rfl rfl rfl ?_
      refine EL_val (R_move rfl) rfl rfl rfl ?_
      refine EL_not rfl rfl rfl ?_
      refine EL_not rfl rfl rfl ?_
      refine EL_not rfl rfl rfl ?_
      refine EL_not rfl rfl rfl ?_
      refine EL_not rfl rfl rfl ?_
      refine EL_not rfl rfl rfl ?_
      refine EL_not rfl rfl rfl ?_
      first | refine EL_val (R_pick_t rfl rfl) rfl rfl rfl ?_ | refine EL_val (R_pick_f rfl rfl) rfl rfl rfl ?_
      refine EL_nil ?_
      refine E_cond_t rfl ?_
      refine E_seqR ?_
      refine EL_val (R_assign rfl) rfl rfl rfl ?_
      refine EL_val (R_assign rfl) rfl rfl rfl ?_
      refine EL_nil ?_
      refine E_ret ?_
      refine thenQ_r ?_
      refine ret2 (.inr rfl) rfl rfl rfl ?_
      simp [getP, ho, h0]
    · by_cases h1 : (S.n : Int) ≤ i
      · refine Ret.enter Try.func28 rfl Try.ntmps28 rfl ?_
        simp only [argEnv, Nat.reduceAdd]
        refine E_seqR ?_
        refine EL_val (R_assign rfl) rfl rfl rfl ?_
        refine EL_val (R_assign rfl) rfl rfl rfl ?_
        refine EL_nil ?_
        refine E_seq ?_
        refine E_seqR ?_
        refine EL_val (R_move rfl) rfl rfl rfl ?_
        refine EL_step rfl ?_
        refine EO_call K.bd30 rfl rfl (ready_ok h) ?_
        rintro _ _ ⟨rfl, rfl⟩
        refine EL_val (R_assign rfl) rfl rfl rfl ?_
        refine EL_nil ?_
        refine E_seqR ?_
        refine EL_val (R_move rfl) rfl rfl rfl ?_
        first | refine EL_val (R_neq_t rfl rfl (by omega)) rfl rfl rfl ?_ | refine EL_val (R_neq_f rfl rfl (by omega)) rfl rfl rfl ?_
        refine EL_nil ?_
        refine E_cond_f rfl ?_
        refine E_skip ?_
        refine thenQ_n ?_
        refine E_seq ?_
        refine E_seqR ?_
        refine EL_val (R_move rfl) rfl rfl rfl ?_
        first | refine EL_val (R_lss_t rfl rfl (by omega)) rfl rfl rfl ?_ | refine EL_val (R_lss_f rfl rfl (by omega)) rfl rfl rfl ?_
        refine EL_val (R_move rfl) rfl rfl rfl ?_
        first | refine EL_val (R_move rfl) rfl rfl rfl ?_ | refine EL_not rfl rfl rfl ?_
        first | refine EL_val (R_move rfl) rfl rfl rfl ?_ | refine EL_not rfl rfl rfl ?_
        first | refine EL_val (R_nilCheck rfl) rfl rfl rfl ?_ | refine EL_not rfl rfl rfl ?_
        first | refine EL_val (R_fieldAddr rfl K.fT70_1) rfl rfl rfl ?_ | refine EL_not rfl rfl rfl ?_
        first | refine EL_val (R_load rfl K.ag68 (h.cRow)) rfl rfl rfl ?_ | refine EL_not rfl rfl rfl ?_
        first | refine EL_val (R_lenSlice rfl Try.underlying68) rfl rfl rfl ?_ | refine EL_not rfl rfl rfl ?_
        first | refine EL_val (R_geq_t rfl rfl (by omega)) rfl rfl rfl ?_ | refine EL_val (R_geq_f rfl rfl (by omega)) rfl rfl rfl ?_ | refine EL_not rfl rfl rfl ?_
        first | refine EL_val (R_pick_t rfl rfl) rfl rfl rfl ?_ | refine EL_val (R_pick_f rfl rfl) rfl rfl rfl ?_
        refine EL_nil ?_
        refine E_cond_t rfl ?_
        refine E_seqR ?_
        refine EL_val (R_assign rfl) rfl rfl rfl ?_
        refine EL_val (R_assign rfl) rfl rfl rfl ?_
        refine EL_nil ?_
        refine E_ret ?_
        refine thenQ_r ?_
        refine ret2 (.inr rfl) rfl rfl rfl ?_
        simp [getP, ho, h1]
      · obtain ⟨m, rfl⟩ : ∃ m : Nat, i = m := ⟨i.toNat, by omega⟩
        have hm : m < S.n := by omega
        have hk := now_ok h hm
        rw [← Nat.zero_add (m * 65)] at hk
        refine Ret.enter Try.func28 rfl Try.ntmps28 rfl ?_
        simp only [argEnv, Nat.reduceAdd]
        refine E_seqR ?_
        refine EL_val (R_assign rfl) rfl rfl rfl ?_
        refine EL_val (R_assign rfl) rfl rfl rfl ?_
        refine EL_nil ?_
        refine E_seq ?_
        refine E_seqR ?_
        refine EL_val (R_move rfl) rfl rfl rfl ?_
        refine EL_step rfl ?_
        refine EO_call K.bd30 rfl rfl (ready_ok h) ?_
        rintro _ _ ⟨rfl, rfl⟩
        refine EL_val (R_assign rfl) rfl rfl rfl ?_
        refine EL_nil ?_
        refine E_seqR ?_
        refine EL_val (R_move rfl) rfl rfl rfl ?_
        first | refine EL_val (R_neq_t rfl rfl (by omega)) rfl rfl rfl ?_ | refine EL_val (R_neq_f rfl rfl (by omega)) rfl rfl rfl ?_
        refine EL_nil ?_
        refine E_cond_f rfl ?_
        refine E_skip ?_
        refine thenQ_n ?_
        refine E_seq ?_
        refine E_seqR ?_
        refine EL_val (R_move rfl) rfl rfl rfl ?_
        first | refine EL_val (R_lss_t rfl rfl (by omega)) rfl rfl rfl ?_ | refine EL_val (R_lss_f rfl rfl (by omega)) rfl rfl rfl ?_
        refine EL_val (R_move rfl) rfl rfl rfl ?_
        first | refine EL_val (R_move rfl) rfl rfl rfl ?_ | refine EL_not rfl rfl rfl ?_
        first | refine EL_val (R_move rfl) rfl rfl rfl ?_ | refine EL_not rfl rfl rfl ?_
        first | refine EL_val (R_nilCheck rfl) rfl rfl rfl ?_ | refine EL_not rfl rfl rfl ?_
        first | refine EL_val (R_fieldAddr rfl K.fT70_1) rfl rfl rfl ?_ | refine EL_not rfl rfl rfl ?_
        first | refine EL_val (R_load rfl K.ag68 (h.cRow)) rfl rfl rfl ?_ | refine EL_not rfl rfl rfl ?_
        first | refine EL_val (R_lenSlice rfl Try.underlying68) rfl rfl rfl ?_ | refine EL_not rfl rfl rfl ?_
        first | refine EL_val (R_geq_t rfl rfl (by omega)) rfl rfl rfl ?_ | refine EL_val (R_geq_f rfl rfl (by omega)) rfl rfl rfl ?_ | refine EL_not rfl rfl rfl ?_
        first | refine EL_val (R_pick_t rfl rfl) rfl rfl rfl ?_ | refine EL_val (R_pick_f rfl rfl) rfl rfl rfl ?_
        refine EL_nil ?_
        refine E_cond_f rfl ?_
        refine E_skip ?_
        refine thenQ_n ?_
        refine E_seqR ?_
        refine EL_val (R_move rfl) rfl rfl rfl ?_
        refine EL_val (R_nilCheck rfl) rfl rfl rfl ?_
        refine EL_val (R_fieldAddr rfl K.fT70_1) rfl rfl rfl ?_
        refine EL_val (R_load rfl K.ag68 (h.cRow)) rfl rfl rfl ?_
        refine EL_val (R_move rfl) rfl rfl rfl ?_
        refine EL_val (R_indexAddr rfl rfl Try.underlying68 K.sz74 rfl (by omega)) rfl rfl rfl ?_
        refine EL_step rfl ?_
        refine EO_call K.bd44 rfl rfl (hk) ?_
        rintro v w1 ⟨h2, h3, h4⟩
        refine EL_val (R_assign rfl) rfl rfl rfl ?_
        refine EL_val (R_assign rfl) rfl rfl rfl ?_
        refine EL_nil ?_
        refine E_ret ?_
        refine ret2 (.inr rfl) rfl rfl rfl ?_
        simp only [getP, ho, Bool.false_eq_true, if_false, if_neg (show ¬ ((m : Int) < 0 ∨ (S.n : Int) ≤ m) by omega), Int.toNat_natCast]
        exact ⟨v, rfl, h2, h3⟩
  · have hr : readyS S = 8 := by simp [readyS, ho]
    refine Ret.enter Try.func28 rfl Try.ntmps28 rfl ?_
    simp only [argEnv, Nat.reduceAdd]
    refine E_seqR ?_
    refine EL_val (R_assign rfl) rfl rfl rfl ?_
    refine EL_val (R_assign rfl) rfl rfl rfl ?_
    refine EL_nil ?_
    refine E_seq ?_
    refine E_seqR ?_
    refine EL_val (R_move rfl) rfl rfl rfl ?_
    refine EL_step rfl ?_
    refine EO_call K.bd30 rfl rfl (ready_ok h) ?_
    rintro _ _ ⟨rfl, rfl⟩
    refine EL_val (R_assign rfl) rfl rfl rfl ?_
    refine EL_nil ?_
    refine E_seqR ?_
    refine EL_val (R_move rfl) rfl rfl rfl ?_
    first | refine EL_val (R_neq_t rfl rfl (by omega)) rfl rfl rfl ?_ | refine EL_val (R_neq_f rfl rfl (by omega)) rfl rfl rfl ?_
    refine EL_nil ?_
    refine E_cond_t rfl ?_
    refine E_seqR ?_
    refine EL_val (R_move rfl) rfl rfl rfl ?_
    refine EL_val (R_assign rfl) rfl rfl rfl ?_
    refine EL_val (R_assign rfl) rfl rfl rfl ?_
    refine EL_nil ?_
    refine E_ret ?_
    refine thenQ_r ?_
    refine ret2 (.inr rfl) rfl rfl rfl ?_
    simp [getP, ho, hr]
theorem get_nil {w : World} {i : Int} : Ret Try.prog 28 [.pointer none, .int .i64 i] w fun v w' => v = .tuple #[.slice none 0 0, .int .i64 1] ∧ w = w' := by
  refine Ret.enter Try.func28 rfl Try.ntmps28 rfl ?_
  simp only [argEnv, Nat.reduceAdd]
  refine E_seqR ?_
  refine EL_val (R_assign rfl) rfl rfl rfl ?_
  refine EL_val (R_assign rfl) rfl rfl rfl ?_
  refine EL_nil ?_
  refine E_seq ?_
  refine E_seqR ?_
  refine EL_val (R_move rfl) rfl rfl rfl ?_
  refine EL_step rfl ?_
  refine EO_call K.bd30 rfl rfl (ready_nil) ?_
  rintro _ _ ⟨rfl, rfl⟩
  refine EL_val (R_assign rfl) rfl rfl rfl ?_
  refine EL_nil ?_
  refine E_seqR ?_
  refine EL_val (R_move rfl) rfl rfl rfl ?_
  first | refine EL_val (R_neq_t rfl rfl (by omega)) rfl rfl rfl ?_ | refine EL_val (R_neq_f rfl rfl (by omega)) rfl rfl rfl ?_
  refine EL_nil ?_
  refine E_cond_t rfl ?_
  refine E_seqR ?_
  refine EL_val (R_move rfl) rfl rfl rfl ?_
  refine EL_val (R_assign rfl) rfl rfl rfl ?_
  refine EL_val (R_assign rfl) rfl rfl rfl ?_
  refine EL_nil ?_
  refine E_ret ?_
  refine thenQ_r ?_
  refine ret2 (.inr rfl) rfl rfl rfl ?_
  exact ⟨rfl, rfl⟩

/-- what lasts, when the first k open writes do -/
def keepL (S : DS) (i : Nat) (k : Int) : List UInt8 := (S.last i :: S.opn i).getD (min k.toNat (S.opn i).length) []
def keepS (S : DS) (i : Nat) (k : Int) : DS := { S with last := fup S.last i (keepL S i k), opn := fup S.opn i [] }
theorem keep_ok {w : World} {B d g : Nat} {C : Array Value} {ov : Nat → Value} {S : DS} (h : DiskAt w B d g C ov S) {i : Nat} (hi : i < S.n) (k : Int) :
    Ret Try.prog 26 [.pointer (some ⟨g, i * 65, none⟩), .int .i64 k] w fun v w' => (∃ C' ov', DiskAt w' B d g C' ov' (keepS S i k)) ∧ DM B w w' := by
  obtain ⟨Ao, co, hov, hfo⟩ := h.form hi
  have hrow := h.row i hi
  rw [hov] at hrow
  obtain ⟨hl, hlast⟩ := h.last i hi
  have hos := (h.opn i hi).1
  have hown := (h.opn i hi).2
  rw [hov] at hown
  have hCs := h.size
  by_cases h0 : 0 < k ∧ 0 < (S.opn i).length
  · obtain ⟨hk, hlen⟩ := h0
    obtain ⟨o, cur, rfl, ho, hBo, ht⟩ := hfo hlen
    have hcap : (S.opn i).length ≤ 9223372036854775807 := by
      obtain ⟨g', cap, cur', hv, _, _, hle, hcm, _⟩ := own_form hown hlen
      simp only [maxLen] at hcm
      omega
    obtain ⟨m, hm⟩ : ∃ m : Nat, m = min k.toNat (S.opn i).length := ⟨_, rfl⟩
    have hr : (if ((S.opn i).length : Int) < k then ((S.opn i).length : Int) else k) = (m : Int) := by rw [hm]; split <;> omega
    have hm1 : 1 ≤ m ∧ m ≤ (S.opn i).length := by omega
    have hL : keepL S i k = (S.opn i)[m - 1] := by
      unfold keepL
      rw [← hm]
      obtain ⟨q, rfl⟩ : ∃ q, m = q + 1 := ⟨m - 1, by omega⟩
      simp [List.getD_eq_getElem?_getD, List.getElem?_eq_getElem (show q < (S.opn i).length by omega)]
    have hx := DiskAt.cellsOpen hos ho ht (m := m - 1) (by omega)
    have h64 : ((S.opn i)[m - 1]).length = 64 := hos _ (List.getElem_mem _)
    have hsz : sizeOfT Try.prog 71 = some (bv (S.opn i)[m - 1]).size := by rw [bv_size, h64]; exact K.sz71
    refine Ret.enter Try.func26 rfl Try.ntmps26 rfl ?_
    simp only [argEnv, Nat.reduceAdd]
    refine E_seq ?_
    refine E_seqR ?_
    refine EL_val (R_move rfl) rfl rfl rfl ?_
    refine EL_val (R_move rfl) rfl rfl rfl ?_
    refine EL_val (R_nilCheck rfl) rfl rfl rfl ?_
    refine EL_val (R_fieldAddr rfl K.fT74_1) rfl rfl rfl ?_
    refine EL_val (R_load rfl K.ag72 (h.hg.cell hrow)) rfl rfl rfl ?_
    refine EL_val (R_lenSlice rfl Try.underlying72) rfl rfl rfl ?_
    refine EL_val (R_minE (m : Int) hr rfl rfl) rfl rfl rfl ?_
    refine EL_val (R_assign rfl) rfl rfl rfl ?_
    refine EL_nil ?_
    refine E_seqR ?_
    refine EL_val (R_move rfl) rfl rfl rfl ?_
    first | refine EL_val (R_gtr_t rfl rfl (by omega)) rfl rfl rfl ?_ | refine EL_val (R_gtr_f rfl rfl (by omega)) rfl rfl rfl ?_
    refine EL_nil ?_
    refine E_cond_t rfl ?_
    refine E_region ?_
    refine EL_val (R_move rfl) rfl rfl rfl ?_
    refine EL_val (R_move rfl) rfl rfl rfl ?_
    refine EL_val (R_nilCheck rfl) rfl rfl rfl ?_
    refine EL_val (R_fieldAddr rfl K.fT74_1) rfl rfl rfl ?_
    refine EL_val (R_load rfl K.ag72 (h.hg.cell hrow)) rfl rfl rfl ?_
    refine EL_val (R_move rfl) rfl rfl rfl ?_
    refine EL_val (R_sub_in rfl rfl (by omega) (by omega)) rfl rfl rfl ?_
    refine EL_val (R_indexAddr rfl rfl Try.underlying72 K.sz71 (m := m - 1) (by omega) (by omega)) rfl rfl rfl ?_
    refine EL_val (R_loadAgg rfl K.ag71 (hx) (hsz)) rfl rfl rfl ?_
    refine EL_val (R_nilCheck rfl) rfl rfl rfl ?_
    refine EL_val (R_fieldAddr rfl K.fT74_0) rfl rfl rfl ?_
    refine EL_step rfl ?_
    refine EO_storeAgg rfl rfl hsz bv_one h.hg (by rw [bv_size, h64]; omega) ?_
    intro w1 hu1
    refine EL_nil ?_
    refine thenQ_n ?_
    refine E_region ?_
    refine EL_val (R_move rfl) rfl rfl rfl ?_
    refine EL_val (R_nilCheck rfl) rfl rfl rfl ?_
    refine EL_val (R_fieldAddr rfl K.fT74_1) rfl rfl rfl ?_
    refine EL_step rfl ?_
    refine EO_store1 rfl rfl K.sz72 rfl hu1.bk (by rw [splice_size (by rw [bv_size, h64]; omega)]; omega) ?_
    intro w2 hu2
    refine EL_nil ?_
    refine ret0 (.inl rfl) rfl ?_
    have hu := hu1.trans hu2
    refine ⟨⟨_, _, h.setBlk hi (Mods.refl _ _) hu (l := keepL S i k) (v := .slice none 0 0) (os := []) (by rw [hL]; exact h64) ?_ ?_ ?_ ?_ (by simp) (World.ownsRow_nil _ _ _ _) (.inr (.inl rfl))⟩, DM.upd hu h.hg h.Bg (.inr (.inl rfl))⟩
    · rw [Array.size_setIfInBounds, splice_size (by rw [bv_size, h64]; omega)]
    · intro j u hu
      have hj : j < (bv (S.opn i)[m - 1]).size := by
        rw [hL] at hu
        exact (Array.getElem?_eq_some_iff.1 hu).1
      rw [Array.getElem?_setIfInBounds_ne (by rw [bv_size, h64] at hj; omega), ← Nat.add_zero (i * 65), splice_in (by rw [bv_size, h64]; omega) hj, ← hL]
      exact hu
    · rw [Array.getElem?_setIfInBounds_self_of_lt (by rw [splice_size (by rw [bv_size, h64]; omega)]; omega)]
    · intro j hj
      rw [Array.getElem?_setIfInBounds_ne (by omega), splice_out (by rw [bv_size, h64]; omega) (by rw [bv_size, h64]; omega)]
  · have hr : ¬ 0 < (if ((S.opn i).length : Int) < k then ((S.opn i).length : Int) else k) := by split <;> omega
    have hL : keepL S i k = S.last i := by
      have : min k.toNat (S.opn i).length = 0 := by omega
      simp [keepL, this]
    refine Ret.enter Try.func26 rfl Try.ntmps26 rfl ?_
    simp only [argEnv, Nat.reduceAdd]
    refine E_seq ?_
    refine E_seqR ?_
    refine EL_val (R_move rfl) rfl rfl rfl ?_
    refine EL_val (R_move rfl) rfl rfl rfl ?_
    refine EL_val (R_nilCheck rfl) rfl rfl rfl ?_
    refine EL_val (R_fieldAddr rfl K.fT74_1) rfl rfl rfl ?_
    refine EL_val (R_load rfl K.ag72 (h.hg.cell hrow)) rfl rfl rfl ?_
    refine EL_val (R_lenSlice rfl Try.underlying72) rfl rfl rfl ?_
    refine EL_val (R_min rfl rfl) rfl rfl rfl ?_
    refine EL_val (R_assign rfl) rfl rfl rfl ?_
    refine EL_nil ?_
    refine E_seqR ?_
    refine EL_val (R_move rfl) rfl rfl rfl ?_
    first | refine EL_val (R_gtr_t rfl rfl (hr)) rfl rfl rfl ?_ | refine EL_val (R_gtr_f rfl rfl (hr)) rfl rfl rfl ?_
    refine EL_nil ?_
    refine E_cond_f rfl ?_
    refine E_skip ?_
    refine thenQ_n ?_
    refine E_region ?_
    refine EL_val (R_move rfl) rfl rfl rfl ?_
    refine EL_val (R_nilCheck rfl) rfl rfl rfl ?_
    refine EL_val (R_fieldAddr rfl K.fT74_1) rfl rfl rfl ?_
    refine EL_step rfl ?_
    refine EO_store1 rfl rfl K.sz72 rfl h.hg (by omega) ?_
    intro w2 hu
    refine EL_nil ?_
    refine ret0 (.inl rfl) rfl ?_
    refine ⟨⟨_, _, h.setBlk hi (Mods.refl _ _) hu (l := keepL S i k) (v := .slice none 0 0) (os := []) (by rw [hL]; exact hl) ?_ ?_ ?_ ?_ (by simp) (World.ownsRow_nil _ _ _ _) (.inr (.inl rfl))⟩, DM.upd hu h.hg h.Bg (.inr (.inl rfl))⟩
    · simp
    · intro j u hu
      have hj : j < 64 := by
        have := (Array.getElem?_eq_some_iff.1 hu).1
        rw [bv_size, hL, hl] at this
        exact this
      rw [Array.getElem?_setIfInBounds_ne (by omega)]
      rw [hL] at hu
      exact hlast j u hu
    · rw [Array.getElem?_setIfInBounds_self_of_lt (by omega)]
    · intro j hj
      rw [Array.getElem?_setIfInBounds_ne (by omega)]
end Go.Proofs.Ytobhogdndfbniaa
