/- The document's GetHead: the same as the program's, of any block. -/
import Derived.Test.YtobhogdndfbniaaRef8
set_option linter.unusedVariables false
set_option linter.unusedSimpArgs false
set_option maxRecDepth 100000
namespace Go.Proofs.Ytobhogdndfbniaa
open Go.EW Go.RowKit

set_option maxHeartbeats 1000000 in
theorem refgethead_ok {w : World} {A : Option Addr} {l : List UInt8} {c : Nat} (hl : BS w A l) (hc : l.length ≤ c) (hm : l.length ≤ 1048576) :
    Ret Try.prog 15 [.slice A l.length c] w fun v w' => getHeadP l v ∧ Mods No w w' := by
  unfold getHeadP
  by_cases h64 : l.length = 64
  case neg =>
    have e : getHeadS l = none := by
      cases h : getHeadS l with
      | none => rfl
      | some p => exact absurd (getHeadS_length h).1 h64
    rw [e]
    refine Ret.enter Try.func15 rfl Try.ntmps15 rfl ?_
    simp only [argEnv, Nat.reduceAdd]
    refine E_seqR ?_
    refine EL_step rfl ?_
    refine EO_alloc K.zr46 rfl ?_
    intro w1 hn1
    refine EL_val (R_assign rfl) rfl rfl rfl ?_
    refine EL_nil ?_
    refine E_seq ?_
    refine E_seqR ?_
    refine EL_val (R_move rfl) rfl rfl rfl ?_
    refine EL_val (R_lenSlice rfl Try.underlying23) rfl rfl rfl ?_
    first | refine EL_val (R_neq_t rfl rfl (by omega)) rfl rfl rfl ?_ | refine EL_val (R_neq_f rfl rfl (by omega)) rfl rfl rfl ?_
    refine EL_nil ?_
    refine E_cond_t rfl ?_
    refine E_seqR ?_
    refine EL_val (R_build (cells := #[.int .i64 0, .int .i64 0]) K.zr46 K.pl46 rfl rfl) rfl rfl rfl ?_
    refine EL_step rfl ?_
    refine EO_storeAggB hn1.bk rfl rfl K.sz46 rfl rfl ?_
    intro w3 hu3
    refine EL_val (R_assign rfl) rfl rfl rfl ?_
    refine EL_nil ?_
    refine E_ret ?_
    refine thenQ_r ?_
    refine ret_ct (.inr rfl) rfl rfl rfl K.ag46 (by exact K.sz46) (whole_cells hu3.bk) ?_
    exact ⟨rfl, hn1.mods.trans' hu3.mods fun k hk hk' => by omega⟩
  obtain ⟨g, o, rfl⟩ := hl.addr (by omega)
  obtain ⟨a, ha⟩ : ∃ a, a = hAt l := ⟨_, rfl⟩
  obtain ⟨s, hsq⟩ : ∃ s, s = hSeq l := ⟨_, rfl⟩
  have e := getHeadS_eq l
  have hs' : (leN (sub l 8 4) : Int) = s := hsq.symm
  rw [← ha, ← hsq] at e
  have ha256 : 0 ≤ a ∧ a < 256 := by
    have := (l.getD 4 0).toNat_lt
    rw [ha]; unfold hAt
    omega
  have hc4 : w.cell? ⟨g, o + 4 * 1, none⟩ = some (.int .u8 a) := by
    obtain ⟨g', o', hA, hcc⟩ := hl.cell (i := 4) (by omega)
    injection hA with hA
    injection hA with h1 h2 _
    subst h1; subst h2
    rw [ha, hAt, List.getD_eq_getElem?_getD, List.getElem?_eq_getElem (by omega)]
    exact hcc
  have hn8 : ∀ {w1}, BS w1 (some ⟨g, o, none⟩) l → Ret Try.prog 29 [.slice (some ⟨g, o, none⟩) l.length c, .int .i64 8, .int .i64 4] w1 fun v w' => v = .int .i64 s ∧ w1 = w' := fun {w1} h => by
    have := refnum_ok (a := 8) (c := c) h (by omega) (by omega)
    rw [hs'] at this
    exact this
  obtain ⟨rr, hrr⟩ : ∃ rr, rr = w.heap.size := ⟨_, rfl⟩
  refine Ret.enter Try.func15 rfl Try.ntmps15 rfl ?_
  simp only [argEnv, Nat.reduceAdd]
  refine E_seqR ?_
  refine EL_step rfl ?_
  refine EO_alloc K.zr46 rfl ?_
  intro w1 hn1
  refine EL_val (R_assign rfl) rfl rfl rfl ?_
  refine EL_nil ?_
  refine E_seq ?_
  refine E_seqR ?_
  refine EL_val (R_move rfl) rfl rfl rfl ?_
  refine EL_val (R_lenSlice rfl Try.underlying23) rfl rfl rfl ?_
  first | refine EL_val (R_neq_t rfl rfl (by omega)) rfl rfl rfl ?_ | refine EL_val (R_neq_f rfl rfl (by omega)) rfl rfl rfl ?_
  refine EL_nil ?_
  refine E_cond_f rfl ?_
  refine E_skip ?_
  refine thenQ_n ?_
  rw [← hrr]
  refine E_seq ?_
  refine E_cut (fun e0 w' => ∃ dd, e0 = [(0, .slice (some ⟨g, o, none⟩) l.length c), (2, ptr rr), (4, ptr dd)] ∧ Bk w' dd #[.int .i64 a, .int .i64 s] 46 ∧ Bk w' rr (Value.agg #[.int .i64 0, .int .i64 0]).cells 46 ∧ Mods No w w' ∧ rr ≠ dd) ?_ ?_
  · skip
    have hm0 := hn1.mods
    have hc4 := hm0.cell hc4 id
    have hL := hl.no hm0
    have hX := hn1.bk
    rw [← hrr] at hX
    have hS : w.heap.size < w1.heap.size := by have := hn1.size; omega
    refine E_regionD (fun _ => [(8, fun W => W.cell? ⟨g, o + 4 * 1, none⟩ = some (.int .u8 a))]) 9 K.mix rfl ?_
    intro wc hm hh0
    (have hc4 := hm.cell hc4 id; have hL := hL.no hm; have hX := hm.bk' hX; have hS := Nat.lt_of_lt_of_le hS hm.size; have hm0 := hm0.trans hm; (try have hD := hm.bk' hD); (try have hD2 := Nat.lt_of_lt_of_le hD2 hm.size))
    refine EA_pure 0 rfl (fun _ => R_move rfl) (by kernel_rfl) rfl rfl rfl ?_
    refine EA_pure 1 rfl (fun _ => R_indexAddr rfl rfl Try.underlying23 K.sz5 (m := 4) rfl (by omega)) (by kernel_rfl) rfl rfl rfl ?_
    refine EA_load 2 0 [3, 6, 8] rfl rfl K.ag5 rfl (by kernel_rfl) (by kernel_rfl) rfl rfl ?_
    refine EA_pure 3 rfl (fun _ => R_convInt a (wrap_i64_in (by omega) (by omega)) rfl Try.underlying5 Try.underlying3) (by kernel_rfl) rfl rfl rfl ?_
    refine EA_pure 4 rfl (fun _ => R_move rfl) (by kernel_rfl) rfl rfl rfl ?_
    refine EA_two 5 7 rfl rfl  (by kernel_rfl) rfl rfl (⟨fun _ => hc4, trivial⟩) ?_ ?_ 
    · refine EO_call K.bd29 rfl rfl (hn8 hL) ?_
      rintro _ _ ⟨rfl, rfl⟩
      refine EA_pure 6 rfl (fun _ => R_build (cells := #[.int .i64 a, .int .i64 s]) K.zr46 K.pl46 rfl rfl) (by kernel_rfl) rfl rfl rfl ?_
      refine EA_one 7 rfl  (by kernel_rfl) rfl (⟨fun _ => hc4, trivial⟩) ?_ 
      refine EO_alloc K.zr46 rfl ?_
      intro wc hn
      (have hD1 : rr < _ := (by rw [hrr]; exact hS); have hm := hn.mods; have hc4 := hm.cell hc4 id; have hL := hL.no hm; have hX := hm.bk' hX; have hS := Nat.lt_of_lt_of_le hS hm.size; have hm0 := hm0.trans hm; (try have hD := hm.bk' hD); (try have hD2 := Nat.lt_of_lt_of_le hD2 hm.size); have hD := hn.bk)
      refine EA_one 8 rfl  (by kernel_rfl) rfl (⟨fun _ => hc4, trivial⟩) ?_ 
      refine EO_storeWhole hD rfl rfl K.sz46 rfl rfl ?_
      intro wc hu
      refine EA_done (by kernel_rfl) (Holds.done (by kernel_rfl)) ?_
      refine thenQ_n ?_
      (exact ⟨rfl, [(0, .slice (some ⟨g, o, none⟩) l.length c), (2, ptr rr), (4, ptr _)], ⟨rfl, rfl, rfl, trivial⟩, _, rfl, hu.bk, hu.mods.bk hX (by omega), hm0.trans' hu.mods (fun k hk hk' => by omega), by omega⟩)
    · refine EO_alloc K.zr46 rfl ?_
      intro wc hn
      (have hD1 : rr < _ := (by rw [hrr]; exact hS); have hm := hn.mods; have hc4 := hm.cell hc4 id; have hL := hL.no hm; have hX := hm.bk' hX; have hS := Nat.lt_of_lt_of_le hS hm.size; have hm0 := hm0.trans hm; (try have hD := hm.bk' hD); (try have hD2 := Nat.lt_of_lt_of_le hD2 hm.size); have hD := hn.bk)
      refine EA_one 5 rfl  (by kernel_rfl) rfl (⟨fun _ => hc4, trivial⟩) ?_ 
      refine EO_call K.bd29 rfl rfl (hn8 hL) ?_
      rintro _ _ ⟨rfl, rfl⟩
      refine EA_pure 6 rfl (fun _ => R_build (cells := #[.int .i64 a, .int .i64 s]) K.zr46 K.pl46 rfl rfl) (by kernel_rfl) rfl rfl rfl ?_
      refine EA_one 8 rfl  (by kernel_rfl) rfl (⟨fun _ => hc4, trivial⟩) ?_ 
      refine EO_storeWhole hD rfl rfl K.sz46 rfl rfl ?_
      intro wc hu
      refine EA_done (by kernel_rfl) (Holds.done (by kernel_rfl)) ?_
      refine thenQ_n ?_
      (exact ⟨rfl, [(0, .slice (some ⟨g, o, none⟩) l.length c), (2, ptr rr), (4, ptr _)], ⟨rfl, rfl, rfl, trivial⟩, _, rfl, hu.bk, hu.mods.bk hX (by omega), hm0.trans' hu.mods (fun k hk hk' => by omega), by omega⟩)
  clear hn1
  rintro e0 w3 ⟨dd, rfl, hD, hX, hm03, hne⟩
  cases hok : headOk a s
  · rw [hok] at e
    simp only [Bool.false_and, if_neg (show ¬ false = true by decide)] at e
    rw [e]

    refine E_seqR ?_
    refine EL_val (R_loadAgg rfl K.ag46 (whole_cells hD) (K.sz46)) rfl rfl rfl ?_
    refine EL_step rfl ?_
    refine EO_call K.bd18 rfl rfl ((by have := refputhead_ok (w := w3) (a := a) (s := s); rw [hok] at this; exact this)) ?_
    rintro _ w5 ⟨rfl, hm5⟩
    refine EL_val (R_move rfl) rfl rfl rfl ?_
    refine EL_val (R_extract rfl rfl) rfl rfl rfl ?_
    refine EL_val (R_extract rfl rfl) rfl rfl rfl ?_
    refine EL_val (R_assign rfl) rfl rfl rfl ?_
    refine EL_val (R_assign rfl) rfl rfl rfl ?_
    refine EL_nil ?_
    refine E_seq ?_
    refine E_seqR ?_
    refine EL_val (R_move rfl) rfl rfl rfl ?_
    first | refine EL_val (R_neq_t rfl rfl (by omega)) rfl rfl rfl ?_ | refine EL_val (R_neq_f rfl rfl (by omega)) rfl rfl rfl ?_
    refine EL_val (R_move rfl) rfl rfl rfl ?_
    refine EL_not rfl rfl rfl ?_
    refine EL_not rfl rfl rfl ?_
    refine EL_not rfl rfl rfl ?_
    refine EL_not rfl rfl rfl ?_
    refine EL_not rfl rfl rfl ?_
    first | refine EL_val (R_pick_t rfl rfl) rfl rfl rfl ?_ | refine EL_val (R_pick_f rfl rfl) rfl rfl rfl ?_
    refine EL_nil ?_
    refine E_cond_t rfl ?_
    refine E_seqR ?_
    refine EL_val (R_build (cells := #[.int .i64 0, .int .i64 0]) K.zr46 K.pl46 rfl rfl) rfl rfl rfl ?_
    refine EL_step rfl ?_
    refine EO_storeAggB (hm5.bk' hX) rfl rfl K.sz46 rfl rfl ?_
    intro w6 hu6
    refine EL_val (R_assign rfl) rfl rfl rfl ?_
    refine EL_nil ?_
    refine E_ret ?_
    refine thenQ_r ?_
    refine ret_ct (.inr rfl) rfl rfl rfl K.ag46 (by exact K.sz46) (whole_cells hu6.bk) ?_
    exact ⟨rfl, (hm03.trans hm5).trans' hu6.mods fun k hk hk' => by omega⟩
  · have hbl := headB_length a s
    by_cases hb : headB a s = l
    · rw [hok, decide_eq_true hb] at e
      simp only [Bool.and_self, if_pos] at e
      rw [e]

      refine E_seqR ?_
      refine EL_val (R_loadAgg rfl K.ag46 (whole_cells hD) (K.sz46)) rfl rfl rfl ?_
      refine EL_step rfl ?_
      refine EO_call K.bd18 rfl rfl ((by have := refputhead_ok (w := w3) (a := a) (s := s); rw [hok] at this; exact this)) ?_
      rintro _ w5 ⟨⟨u, rfl, ho⟩, hm5⟩
      (obtain ⟨gu, cu', rfl, _, _, _, _, hbu⟩ := ho.form (by omega); have hX5 := hm5.bk' hX)
      refine EL_val (R_move rfl) rfl rfl rfl ?_
      refine EL_val (R_extract rfl rfl) rfl rfl rfl ?_
      refine EL_val (R_extract rfl rfl) rfl rfl rfl ?_
      refine EL_val (R_assign rfl) rfl rfl rfl ?_
      refine EL_val (R_assign rfl) rfl rfl rfl ?_
      refine EL_nil ?_
      refine E_seq ?_
      refine E_seqR ?_
      refine EL_val (R_move rfl) rfl rfl rfl ?_
      first | refine EL_val (R_neq_t rfl rfl (by omega)) rfl rfl rfl ?_ | refine EL_val (R_neq_f rfl rfl (by omega)) rfl rfl rfl ?_
      refine EL_val (R_move rfl) rfl rfl rfl ?_
      first | refine EL_val (R_move rfl) rfl rfl rfl ?_ | refine EL_not rfl rfl rfl ?_
      first | refine EL_val (R_bytesStr rfl hbu rfl Try.underlying23 Try.underlying5 Try.underlying9) rfl rfl rfl ?_ | refine EL_not rfl rfl rfl ?_
      first | refine EL_val (R_move rfl) rfl rfl rfl ?_ | refine EL_not rfl rfl rfl ?_
      first | refine EL_val (R_bytesStr rfl (hl.no (hm03.trans hm5)) rfl Try.underlying23 Try.underlying5 Try.underlying9) rfl rfl rfl ?_ | refine EL_not rfl rfl rfl ?_
      first | refine EL_val (R_strNeq_t rfl rfl (fun h => h hb)) rfl rfl rfl ?_ | refine EL_val (R_strNeq_f rfl rfl (fun h => h hb)) rfl rfl rfl ?_ | refine EL_not rfl rfl rfl ?_
      first | refine EL_val (R_pick_t rfl rfl) rfl rfl rfl ?_ | refine EL_val (R_pick_f rfl rfl) rfl rfl rfl ?_
      refine EL_nil ?_
      refine E_cond_f rfl ?_
      refine E_skip ?_
      refine thenQ_n ?_
      refine E_seqR ?_
      refine EL_val (R_loadAgg rfl K.ag46 (whole_cells (hm5.bk' hD)) (K.sz46)) rfl rfl rfl ?_
      refine EL_step rfl ?_
      refine EO_storeWhole hX5 rfl rfl K.sz46 rfl rfl ?_
      intro w6 hu6
      refine EL_val (R_assign rfl) rfl rfl rfl ?_
      refine EL_nil ?_
      refine E_ret ?_
      refine ret_ct (.inr rfl) rfl rfl rfl K.ag46 (by exact K.sz46) (whole_cells hu6.bk) ?_
      exact ⟨rfl, (hm03.trans hm5).trans' hu6.mods fun k hk hk' => by omega⟩
    · rw [hok, decide_eq_false hb] at e
      simp only [Bool.and_false, if_neg (show ¬ false = true by decide)] at e
      rw [e]

      refine E_seqR ?_
      refine EL_val (R_loadAgg rfl K.ag46 (whole_cells hD) (K.sz46)) rfl rfl rfl ?_
      refine EL_step rfl ?_
      refine EO_call K.bd18 rfl rfl ((by have := refputhead_ok (w := w3) (a := a) (s := s); rw [hok] at this; exact this)) ?_
      rintro _ w5 ⟨⟨u, rfl, ho⟩, hm5⟩
      (obtain ⟨gu, cu', rfl, _, _, _, _, hbu⟩ := ho.form (by omega); have hX5 := hm5.bk' hX)
      refine EL_val (R_move rfl) rfl rfl rfl ?_
      refine EL_val (R_extract rfl rfl) rfl rfl rfl ?_
      refine EL_val (R_extract rfl rfl) rfl rfl rfl ?_
      refine EL_val (R_assign rfl) rfl rfl rfl ?_
      refine EL_val (R_assign rfl) rfl rfl rfl ?_
      refine EL_nil ?_
      refine E_seq ?_
      refine E_seqR ?_
      refine EL_val (R_move rfl) rfl rfl rfl ?_
      first | refine EL_val (R_neq_t rfl rfl (by omega)) rfl rfl rfl ?_ | refine EL_val (R_neq_f rfl rfl (by omega)) rfl rfl rfl ?_
      refine EL_val (R_move rfl) rfl rfl rfl ?_
      first | refine EL_val (R_move rfl) rfl rfl rfl ?_ | refine EL_not rfl rfl rfl ?_
      first | refine EL_val (R_bytesStr rfl hbu rfl Try.underlying23 Try.underlying5 Try.underlying9) rfl rfl rfl ?_ | refine EL_not rfl rfl rfl ?_
      first | refine EL_val (R_move rfl) rfl rfl rfl ?_ | refine EL_not rfl rfl rfl ?_
      first | refine EL_val (R_bytesStr rfl (hl.no (hm03.trans hm5)) rfl Try.underlying23 Try.underlying5 Try.underlying9) rfl rfl rfl ?_ | refine EL_not rfl rfl rfl ?_
      first | refine EL_val (R_strNeq_t rfl rfl (hb)) rfl rfl rfl ?_ | refine EL_val (R_strNeq_f rfl rfl (hb)) rfl rfl rfl ?_ | refine EL_not rfl rfl rfl ?_
      first | refine EL_val (R_pick_t rfl rfl) rfl rfl rfl ?_ | refine EL_val (R_pick_f rfl rfl) rfl rfl rfl ?_
      refine EL_nil ?_
      refine E_cond_t rfl ?_
      refine E_seqR ?_
      refine EL_val (R_build (cells := #[.int .i64 0, .int .i64 0]) K.zr46 K.pl46 rfl rfl) rfl rfl rfl ?_
      refine EL_step rfl ?_
      refine EO_storeAggB hX5 rfl rfl K.sz46 rfl rfl ?_
      intro w6 hu6
      refine EL_val (R_assign rfl) rfl rfl rfl ?_
      refine EL_nil ?_
      refine E_ret ?_
      refine thenQ_r ?_
      refine ret_ct (.inr rfl) rfl rfl rfl K.ag46 (by exact K.sz46) (whole_cells hu6.bk) ?_
      exact ⟨rfl, (hm03.trans hm5).trans' hu6.mods fun k hk hk' => by omega⟩
end Go.Proofs.Ytobhogdndfbniaa
