/- The disk: Fail, Open, a block's copy, Get, keep. -/
import Derived.Test.YtobhogdndfbniaaDiskA
set_option linter.unusedVariables false
set_option linter.unusedSimpArgs false
set_option maxRecDepth 100000
namespace Go.Proofs.Ytobhogdndfbniaa
open Go.EW Go.RowKit

def openS (S : DS) (i : Int) : Int := if i < 0 ∨ (S.n : Int) ≤ i then 0 else (S.opn i.toNat).length
theorem open_nil {w : World} {i : Int} : Ret Try.prog 17 [.pointer none, .int .i64 i] w fun v w' => v = .int .i64 0 ∧ w = w' := by
  refine Ret.enter Try.func17 rfl Try.ntmps17 rfl ?_
  simp only [argEnv, Nat.reduceAdd]
  refine E_seqR ?_
  refine EL_val (R_assign rfl) rfl rfl rfl ?_
  refine EL_nil ?_
  refine E_seq ?_
  refine E_seqR ?_
  refine EL_val (R_move rfl) rfl rfl rfl ?_
  refine EL_val (R_eqlPtrNil rfl Try.underlying29) rfl rfl rfl ?_
  refine EL_val (R_move rfl) rfl rfl rfl ?_
  first | refine EL_val (R_move rfl) rfl rfl rfl ?_ | refine EL_not rfl rfl rfl ?_
  refine EL_not rfl rfl rfl ?_
  first | refine EL_val (R_pick_t rfl rfl) rfl rfl rfl ?_ | refine EL_val (R_pick_f rfl rfl) rfl rfl rfl ?_
  refine EL_val (R_move rfl) rfl rfl rfl ?_
  refine EL_not rfl rfl rfl ?_
  refine EL_not rfl rfl rfl ?_
  refine EL_not rfl rfl rfl ?_
  refine EL_not rfl rfl rfl ?_
  refine EL_not rfl rfl rfl ?_
  refine EL_not rfl rfl rfl ?_
  refine EL_not rfl rfl rfl ?_
  first | refine EL_val (R_pick_t rfl rfl) rfl rfl rfl ?_ | refine EL_val (R_pick_f rfl rfl) rfl rfl rfl ?_
  refine EL_nil ?_
  refine E_cond_t rfl ?_
  refine E_seqR ?_
  refine EL_val (R_assign rfl) rfl rfl rfl ?_
  refine EL_nil ?_
  refine E_ret ?_
  refine thenQ_r ?_
  refine ret1 (.inr rfl) rfl rfl ?_
  exact ⟨rfl, rfl⟩
theorem open_ok {w : World} {B d g : Nat} {C : Array Value} {ov : Nat → Value} {S : DS} (h : DiskAt w B d g C ov S) (i : Int) :
    Ret Try.prog 17 [ptr d, .int .i64 i] w fun v w' => v = .int .i64 (openS S i) ∧ w = w' := by
  by_cases h0 : i < 0
  · refine Ret.enter Try.func17 rfl Try.ntmps17 rfl ?_
    simp only [argEnv, Nat.reduceAdd]
    refine E_seqR ?_
    refine EL_val (R_assign rfl) rfl rfl rfl ?_
    refine EL_nil ?_
    refine E_seq ?_
    refine E_seqR ?_
    refine EL_val (R_move rfl) rfl rfl rfl ?_
    refine EL_val (R_eqlPtrNil rfl Try.underlying29) rfl rfl rfl ?_
    refine EL_val (R_move rfl) rfl rfl rfl ?_
    first | refine EL_val (R_move rfl) rfl rfl rfl ?_ | refine EL_not rfl rfl rfl ?_
    first | refine EL_val (R_lss_t rfl rfl (by omega)) rfl rfl rfl ?_ | refine EL_val (R_lss_f rfl rfl (by omega)) rfl rfl rfl ?_ | refine EL_not rfl rfl rfl ?_
    first | refine EL_val (R_pick_t rfl rfl) rfl rfl rfl ?_ | refine EL_val (R_pick_f rfl rfl) rfl rfl rfl ?_
    refine EL_val (R_move rfl) rfl rfl rfl ?_
    refine EL_not rfl rfl rfl ?_
    refine EL_not rfl rfl rfl ?_
    refine EL_not rfl rfl rfl ?_
    refine EL_not rfl rfl rfl ?_
    refine EL_not rfl rfl rfl ?_
    refine EL_not rfl rfl rfl ?_
    refine EL_not rfl rfl rfl ?_
    first | refine EL_val (R_pick_t rfl rfl) rfl rfl rfl ?_ | refine EL_val (R_pick_f rfl rfl) rfl rfl rfl ?_
    refine EL_nil ?_
    refine E_cond_t rfl ?_
    refine E_seqR ?_
    refine EL_val (R_assign rfl) rfl rfl rfl ?_
    refine EL_nil ?_
    refine E_ret ?_
    refine thenQ_r ?_
    refine ret1 (.inr rfl) rfl rfl ?_
    exact ⟨by simp [openS, h0], rfl⟩
  · by_cases h1 : (S.n : Int) ≤ i
    · refine Ret.enter Try.func17 rfl Try.ntmps17 rfl ?_
      simp only [argEnv, Nat.reduceAdd]
      refine E_seqR ?_
      refine EL_val (R_assign rfl) rfl rfl rfl ?_
      refine EL_nil ?_
      refine E_seq ?_
      refine E_seqR ?_
      refine EL_val (R_move rfl) rfl rfl rfl ?_
      refine EL_val (R_eqlPtrNil rfl Try.underlying29) rfl rfl rfl ?_
      refine EL_val (R_move rfl) rfl rfl rfl ?_
      first | refine EL_val (R_move rfl) rfl rfl rfl ?_ | refine EL_not rfl rfl rfl ?_
      first | refine EL_val (R_lss_t rfl rfl (by omega)) rfl rfl rfl ?_ | refine EL_val (R_lss_f rfl rfl (by omega)) rfl rfl rfl ?_ | refine EL_not rfl rfl rfl ?_
      first | refine EL_val (R_pick_t rfl rfl) rfl rfl rfl ?_ | refine EL_val (R_pick_f rfl rfl) rfl rfl rfl ?_
      refine EL_val (R_move rfl) rfl rfl rfl ?_
      first | refine EL_val (R_move rfl) rfl rfl rfl ?_ | refine EL_not rfl rfl rfl ?_
      first | refine EL_val (R_move rfl) rfl rfl rfl ?_ | refine EL_not rfl rfl rfl ?_
      first | refine EL_val (R_nilCheck rfl) rfl rfl rfl ?_ | refine EL_not rfl rfl rfl ?_
      first | refine EL_val (R_fieldAddr rfl K.fT70_1) rfl rfl rfl ?_ | refine EL_not rfl rfl rfl ?_
      first | refine EL_val (R_load rfl K.ag68 (h.cRow)) rfl rfl rfl ?_ | refine EL_not rfl rfl rfl ?_
      first | refine EL_val (R_lenSlice rfl Try.underlying68) rfl rfl rfl ?_ | refine EL_not rfl rfl rfl ?_
      first | refine EL_val (R_geq_t rfl rfl (by omega)) rfl rfl rfl ?_ | refine EL_val (R_geq_f rfl rfl (by omega)) rfl rfl rfl ?_ | refine EL_not rfl rfl rfl ?_
      first | refine EL_val (R_pick_t rfl rfl) rfl rfl rfl ?_ | refine EL_val (R_pick_f rfl rfl) rfl rfl rfl ?_
      refine EL_nil ?_
      refine E_cond_t rfl ?_
      refine E_seqR ?_
      refine EL_val (R_assign rfl) rfl rfl rfl ?_
      refine EL_nil ?_
      refine E_ret ?_
      refine thenQ_r ?_
      refine ret1 (.inr rfl) rfl rfl ?_
      exact ⟨by simp [openS, h1], rfl⟩
    · obtain ⟨m, rfl⟩ : ∃ m : Nat, i = m := ⟨i.toNat, by omega⟩
      have hm : m < S.n := by omega
      obtain ⟨Ao, co, hov, _⟩ := h.form hm
      have hrow := h.row m hm
      rw [hov] at hrow
      refine Ret.enter Try.func17 rfl Try.ntmps17 rfl ?_
      simp only [argEnv, Nat.reduceAdd]
      refine E_seqR ?_
      refine EL_val (R_assign rfl) rfl rfl rfl ?_
      refine EL_nil ?_
      refine E_seq ?_
      refine E_seqR ?_
      refine EL_val (R_move rfl) rfl rfl rfl ?_
      refine EL_val (R_eqlPtrNil rfl Try.underlying29) rfl rfl rfl ?_
      refine EL_val (R_move rfl) rfl rfl rfl ?_
      first | refine EL_val (R_move rfl) rfl rfl rfl ?_ | refine EL_not rfl rfl rfl ?_
      first | refine EL_val (R_lss_t rfl rfl (by omega)) rfl rfl rfl ?_ | refine EL_val (R_lss_f rfl rfl (by omega)) rfl rfl rfl ?_ | refine EL_not rfl rfl rfl ?_
      first | refine EL_val (R_pick_t rfl rfl) rfl rfl rfl ?_ | refine EL_val (R_pick_f rfl rfl) rfl rfl rfl ?_
      refine EL_val (R_move rfl) rfl rfl rfl ?_
      first | refine EL_val (R_move rfl) rfl rfl rfl ?_ | refine EL_not rfl rfl rfl ?_
      first | refine EL_val (R_move rfl) rfl rfl rfl ?_ | refine EL_not rfl rfl rfl ?_
      first | refine EL_val (R_nilCheck rfl) rfl rfl rfl ?_ | refine EL_not rfl rfl rfl ?_
      first | refine EL_val (R_fieldAddr rfl K.fT70_1) rfl rfl rfl ?_ | refine EL_not rfl rfl rfl ?_
      first | refine EL_val (R_load rfl K.ag68 (h.cRow)) rfl rfl rfl ?_ | refine EL_not rfl rfl rfl ?_
      first | refine EL_val (R_lenSlice rfl Try.underlying68) rfl rfl rfl ?_ | refine EL_not rfl rfl rfl ?_
      first | refine EL_val (R_geq_t rfl rfl (by omega)) rfl rfl rfl ?_ | refine EL_val (R_geq_f rfl rfl (by omega)) rfl rfl rfl ?_ | refine EL_not rfl rfl rfl ?_
      first | refine EL_val (R_pick_t rfl rfl) rfl rfl rfl ?_ | refine EL_val (R_pick_f rfl rfl) rfl rfl rfl ?_
      refine EL_nil ?_
      refine E_cond_f rfl ?_
      refine E_skip ?_
      refine thenQ_n ?_
      refine E_seqR ?_
      refine EL_val (R_move rfl) rfl rfl rfl ?_
      refine EL_val (R_nilCheck rfl) rfl rfl rfl ?_
      refine EL_val (R_fieldAddr rfl K.fT70_1) rfl rfl rfl ?_
      refine EL_val (R_load rfl K.ag68 (h.cRow)) rfl rfl rfl ?_
      refine EL_val (R_move rfl) rfl rfl rfl ?_
      refine EL_val (R_indexAddr rfl rfl Try.underlying68 K.sz74 rfl (by omega)) rfl rfl rfl ?_
      refine EL_val (R_fieldAddr rfl K.fT74_1) rfl rfl rfl ?_
      refine EL_val (R_load rfl K.ag72 (h.hg.cell (by rw [Nat.zero_add]; exact hrow))) rfl rfl rfl ?_
      refine EL_val (R_lenSlice rfl Try.underlying72) rfl rfl rfl ?_
      refine EL_val (R_assign rfl) rfl rfl rfl ?_
      refine EL_nil ?_
      refine E_ret ?_
      refine ret1 (.inr rfl) rfl rfl ?_
      exact ⟨by simp [openS, h0, h1], rfl⟩
/-- bytes.Clone of what is there -/
theorem clone_ok {w : World} {a : Addr} {m c : Nat} {news : List Value} (hs : Src w (some a) m 1 news) (h1 : ∀ u ∈ news, u.oneCell' = true) (hm : m ≤ 140737488355328) :
    Ret Try.prog 59 [.slice (some a) m c] w fun v w' => w'.ownsRow w.heap.size 5 1 v m news ∧ Mods No w w' ∧ (v.ownBlock = some w.heap.size ∨ v.ownBlock = some (w.heap.size + 1)) := by
  refine Ret.enter Try.func59 rfl Try.ntmps59 rfl ?_
  simp only [argEnv, Nat.reduceAdd]
  refine E_seqR ?_
  refine EL_val (R_assign rfl) rfl rfl rfl ?_
  refine EL_nil ?_
  refine E_seq ?_
  refine E_seqR ?_
  refine EL_val (R_move rfl) rfl rfl rfl ?_
  refine EL_val (R_eqlSliceNil rfl Try.underlying23) rfl rfl rfl ?_
  refine EL_nil ?_
  refine E_cond_f rfl ?_
  refine E_skip ?_
  refine thenQ_n ?_
  refine E_seqR ?_
  refine EL_step rfl ?_
  refine EO_buildSlice0 Try.underlying23 K.sz5 rfl ?_
  intro w1 hn
  refine EL_val (R_move rfl) rfl rfl rfl ?_
  refine EL_step rfl ?_
  refine EO_append rfl rfl Try.underlying23 K.sz5 K.zr5 K.by5 rfl (by decide) (hn.own0 (m := 0) rfl (Nat.le_refl _) (by simp only [maxLen]; omega)) (hs.mods hn.mods fun _ _ _ h => h) h1 (by simp only [maxLen]; omega) (by omega) (by have := hn.size; omega) rfl ?_
  intro v2 w2 ho hm2 hat
  refine EL_val (R_assign rfl) rfl rfl rfl ?_
  refine EL_nil ?_
  refine E_ret ?_
  refine ret1 (.inr rfl) rfl rfl ?_
  refine ⟨by simpa using ho, hn.mods.trans' (hm2.mono (S' := fun i => i = w.heap.size) fun i _ hi => ?_) fun i hi hh => ?_, ?_⟩
  · simpa [Value.ownBlock] using hi
  · omega
  · rw [hn.size] at hat
    simpa [Value.ownBlock] using hat
def nowS (S : DS) (i : Nat) : List UInt8 := ((S.opn i).getLast?).getD (S.last i)
theorem now_ok {w : World} {B d g : Nat} {C : Array Value} {ov : Nat → Value} {S : DS} (h : DiskAt w B d g C ov S) {i : Nat} (hi : i < S.n) :
    Ret Try.prog 44 [.pointer (some ⟨g, i * 65, none⟩)] w fun v w' => w'.ownsRow w.heap.size 5 1 v 64 (bv (nowS S i)).toList ∧ Mods No w w' ∧ (v.ownBlock = some w.heap.size ∨ v.ownBlock = some (w.heap.size + 1)) := by
  obtain ⟨Ao, co, hov, hfo⟩ := h.form hi
  have hrow := h.row i hi
  rw [hov] at hrow
  obtain ⟨hl, hlast⟩ := h.last i hi
  have hos := (h.opn i hi).1
  have hown := (h.opn i hi).2
  rw [hov] at hown
  by_cases h0 : 0 < (S.opn i).length
  · obtain ⟨o, cur, rfl, ho, hBo, ht⟩ := hfo h0
    have hcap : (S.opn i).length ≤ 9223372036854775807 := by
      obtain ⟨g', cap, cur', hv, _, _, hle, hcm, _⟩ := own_form hown h0
      simp only [maxLen] at hcm
      omega
    have hx := DiskAt.cellsOpen hos ho ht (m := (S.opn i).length - 1) (by omega)
    have hnow : nowS S i = (S.opn i)[(S.opn i).length - 1] := by
      simp [nowS, List.getLast?_eq_getElem?, List.getElem?_eq_getElem (show (S.opn i).length - 1 < (S.opn i).length by omega)]
    have hsz : (bv (nowS S i)).toList.length = 64 * 1 := by rw [hnow]; simpa [bv_size] using hos _ (List.getElem_mem _)
    have hsrc : Src w (some ⟨o, 0 + ((S.opn i).length - 1) * 64, none⟩) 64 1 (bv (nowS S i)).toList := ⟨hsz, fun _ => ⟨o, _, rfl, by rw [hnow]; simpa using hx⟩⟩
    refine Ret.enter Try.func44 rfl Try.ntmps44 rfl ?_
    simp only [argEnv, Nat.reduceAdd]
    refine E_seqR ?_
    refine EL_val (R_assign rfl) rfl rfl rfl ?_
    refine EL_nil ?_
    refine E_seq ?_
    refine E_seqR ?_
    refine EL_val (R_move rfl) rfl rfl rfl ?_
    refine EL_val (R_nilCheck rfl) rfl rfl rfl ?_
    refine EL_val (R_fieldAddr rfl K.fT74_1) rfl rfl rfl ?_
    refine EL_val (R_load rfl K.ag72 (h.hg.cell hrow)) rfl rfl rfl ?_
    refine EL_val (R_lenSlice rfl Try.underlying72) rfl rfl rfl ?_
    refine EL_val (R_assign rfl) rfl rfl rfl ?_
    refine EL_nil ?_
    refine E_seqR ?_
    refine EL_val (R_move rfl) rfl rfl rfl ?_
    first | refine EL_val (R_gtr_t rfl rfl (by omega)) rfl rfl rfl ?_ | refine EL_val (R_gtr_f rfl rfl (by omega)) rfl rfl rfl ?_
    refine EL_nil ?_
    refine E_cond_t rfl ?_
    refine E_seqR ?_
    refine EL_val (R_move rfl) rfl rfl rfl ?_
    refine EL_val (R_nilCheck rfl) rfl rfl rfl ?_
    refine EL_val (R_fieldAddr rfl K.fT74_1) rfl rfl rfl ?_
    refine EL_val (R_load rfl K.ag72 (h.hg.cell hrow)) rfl rfl rfl ?_
    refine EL_val (R_move rfl) rfl rfl rfl ?_
    refine EL_val (R_sub_in rfl rfl (by omega) (by omega)) rfl rfl rfl ?_
    refine EL_val (R_indexAddr rfl rfl Try.underlying72 K.sz71 (m := (S.opn i).length - 1) (by omega) (by omega)) rfl rfl rfl ?_
    refine EL_val (R_sliceArr rfl Try.underlying71 K.sz5) rfl rfl rfl ?_
    refine EL_step rfl ?_
    refine EO_call K.bd59 rfl rfl (clone_ok hsrc (fun u hu => bv_one u (by simpa using hu)) (by omega)) ?_
    rintro v w1 ⟨h1, h2, h3⟩
    refine EL_val (R_assign rfl) rfl rfl rfl ?_
    refine EL_nil ?_
    refine E_ret ?_
    refine thenQ_r ?_
    refine ret1 (.inr rfl) rfl rfl ?_
    exact ⟨h1, h2, h3⟩
  · have hn0 : S.opn i = [] := List.eq_nil_of_length_eq_zero (by omega)
    have hnow : nowS S i = S.last i := by simp [nowS, hn0]
    have hsrc : Src w (some ⟨g, i * 65 + 0, none⟩) 64 1 (bv (nowS S i)).toList := ⟨by rw [hnow]; simpa [bv_size] using hl, fun _ => ⟨g, _, rfl, by
      rw [hnow]; exact h.hg.cells _ _ fun j v hv => by rw [Nat.add_zero]; exact hlast j v (by simpa using hv)⟩⟩
    refine Ret.enter Try.func44 rfl Try.ntmps44 rfl ?_
    simp only [argEnv, Nat.reduceAdd]
    refine E_seqR ?_
    refine EL_val (R_assign rfl) rfl rfl rfl ?_
    refine EL_nil ?_
    refine E_seq ?_
    refine E_seqR ?_
    refine EL_val (R_move rfl) rfl rfl rfl ?_
    refine EL_val (R_nilCheck rfl) rfl rfl rfl ?_
    refine EL_val (R_fieldAddr rfl K.fT74_1) rfl rfl rfl ?_
    refine EL_val (R_load rfl K.ag72 (h.hg.cell hrow)) rfl rfl rfl ?_
    refine EL_val (R_lenSlice rfl Try.underlying72) rfl rfl rfl ?_
    refine EL_val (R_assign rfl) rfl rfl rfl ?_
    refine EL_nil ?_
    refine E_seqR ?_
    refine EL_val (R_move rfl) rfl rfl rfl ?_
    first | refine EL_val (R_gtr_t rfl rfl (by omega)) rfl rfl rfl ?_ | refine EL_val (R_gtr_f rfl rfl (by omega)) rfl rfl rfl ?_
    refine EL_nil ?_
    refine E_cond_f rfl ?_
    refine E_skip ?_
    refine thenQ_n ?_
    refine E_seqR ?_
    refine EL_val (R_move rfl) rfl rfl rfl ?_
    refine EL_val (R_nilCheck rfl) rfl rfl rfl ?_
    refine EL_val (R_fieldAddr rfl K.fT74_0) rfl rfl rfl ?_
    refine EL_val (R_sliceArr rfl Try.underlying71 K.sz5) rfl rfl rfl ?_
    refine EL_step rfl ?_
    refine EO_call K.bd59 rfl rfl (clone_ok hsrc (fun u hu => bv_one u (by simpa using hu)) (by omega)) ?_
    rintro v w1 ⟨h1, h2, h3⟩
    refine EL_val (R_assign rfl) rfl rfl rfl ?_
    refine EL_nil ?_
    refine E_ret ?_
    refine ret1 (.inr rfl) rfl rfl ?_
    exact ⟨h1, h2, h3⟩
end Go.Proofs.Ytobhogdndfbniaa
