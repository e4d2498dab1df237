/- The descriptor that a block is (package log). -/
import Derived.Test.YtobhogdndfbniaaLogC
set_option linter.unusedVariables false
set_option linter.unusedSimpArgs false
set_option maxRecDepth 100000
namespace Go.Proofs.Ytobhogdndfbniaa
open Go.EW Go.RowKit

theorem beginB_length (s : Int) (ks : List Int) (h : ks.length ≤ 20) : (beginB s ks).length = 64 := by
  have h1 : (setS ([66, 69, 71, 78] ++ zerosB 60) 4 4 [s]).length = 64 := by
    unfold setS
    rw [setN_length _ (by simp [zerosB])]
    simp [zerosB]
  have h2 : (setS (setS ([66, 69, 71, 78] ++ zerosB 60) 4 4 [s]) 8 1 [(ks.length : Int)]).length = 64 := by
    unfold setS at h1 ⊢
    rw [setN_length _ (by rw [h1]; simp), h1]
  refine sealS_length ?_
  unfold setS at h2 ⊢
  rw [setN_length _ (by rw [h2]; omega), h2]
theorem whole_cells {w : World} {g : Nat} {C : Array Value} {t : TypeId} (h : Bk w g C t) : Cells w g 0 C := h.cells 0 _ fun j v hj => by rw [Nat.zero_add]; exact hj
set_option maxHeartbeats 1000000 in
theorem begins_ok {w : World} {A : Option Addr} {l : List UInt8} {c : Nat} (hl : BS w A l) (hc : l.length ≤ c) (hm : l.length ≤ 1048576) :
    Ret Try.prog 57 [.slice A l.length c] w (beginsP l w) := by
  unfold beginsP
  cases hs : sealedS l
  · have e : beginsS l = none := by simp [beginsS, hs]
    rw [e]
    refine Ret.enter Try.func57 rfl Try.ntmps57 rfl ?_
    simp only [argEnv, Nat.reduceAdd]
    refine E_seqR ?_
    refine EL_step rfl ?_
    refine EO_alloc K.zr61 rfl ?_
    intro w1 hn1
    refine EL_val (R_assign rfl) rfl rfl rfl ?_
    refine EL_nil ?_
    refine E_seq ?_
    refine E_seqR ?_
    refine EL_val (R_move rfl) rfl rfl rfl ?_
    refine EL_step rfl ?_
    refine EO_call K.bd51 rfl rfl ((by have := sealed_ok (hl.no hn1.mods) hc (by omega); rw [hs] at this; exact this)) ?_
    rintro _ w2 ⟨rfl, hm2⟩
    refine EL_val (R_not rfl) rfl rfl rfl ?_
    refine EL_val (R_move rfl) rfl rfl rfl ?_
    first | refine EL_val (R_move rfl) rfl rfl rfl ?_ | refine EL_not rfl rfl rfl ?_
    refine EL_not rfl rfl rfl ?_
    refine EL_not rfl rfl rfl ?_
    refine EL_not rfl rfl rfl ?_
    first | refine EL_val (R_pick_t rfl rfl) rfl rfl rfl ?_ | refine EL_val (R_pick_f rfl rfl) rfl rfl rfl ?_
    refine EL_nil ?_
    refine E_cond_t rfl ?_
    refine E_seqR ?_
    refine EL_val (R_build (cells := #[.int .i64 0, .slice none 0 0]) K.zr61 K.pl61 rfl rfl) rfl rfl rfl ?_
    refine EL_step rfl ?_
    refine EO_storeAggB (hm2.bk' hn1.bk) rfl rfl K.sz61 rfl rfl ?_
    intro w3 hu3
    refine EL_val (R_assign rfl) rfl rfl rfl ?_
    refine EL_nil ?_
    refine E_ret ?_
    refine thenQ_r ?_
    refine ret_ct (.inr rfl) rfl rfl rfl K.ag61 (by exact K.sz61) (whole_cells hu3.bk) ?_
    exact ⟨rfl, (hn1.mods.trans hm2).trans' hu3.mods fun k hk hk' => by omega⟩
  · have h64 : l.length = 64 := by
      unfold sealedS at hs
      simp only [Bool.and_eq_true, decide_eq_true_eq] at hs
      exact hs.1
    obtain ⟨g, o, rfl⟩ := hl.addr (by omega)
    obtain ⟨x, hx⟩ : ∃ x : Nat, x = (l.getD 8 0).toNat := ⟨_, rfl⟩
    have hx256 : x < 256 := by rw [hx]; exact (l.getD 8 0).toNat_lt
    have hc8 : w.cell? ⟨g, o + 8 * 1, none⟩ = some (.int .u8 (x : Int)) := by
      obtain ⟨g', o', hA, hcc⟩ := hl.cell (i := 8) (by omega)
      injection hA with hA
      injection hA with h1 h2 _
      subst h1; subst h2
      rw [hx, List.getD_eq_getElem?_getD, List.getElem?_eq_getElem (by omega)]
      exact hcc
    by_cases h20 : 20 < x
    · have e : beginsS l = none := by
        unfold beginsS
        rw [← hx, decide_eq_false (show ¬ x ≤ 20 by omega)]
        simp
      rw [e]
      refine Ret.enter Try.func57 rfl Try.ntmps57 rfl ?_
      simp only [argEnv, Nat.reduceAdd]
      refine E_seqR ?_
      refine EL_step rfl ?_
      refine EO_alloc K.zr61 rfl ?_
      intro w1 hn1
      refine EL_val (R_assign rfl) rfl rfl rfl ?_
      refine EL_nil ?_
      refine E_seq ?_
      refine E_seqR ?_
      refine EL_val (R_move rfl) rfl rfl rfl ?_
      refine EL_step rfl ?_
      refine EO_call K.bd51 rfl rfl ((by have := sealed_ok (hl.no hn1.mods) hc (by omega); rw [hs] at this; exact this)) ?_
      rintro _ w2 ⟨rfl, hm2⟩
      refine EL_val (R_not rfl) rfl rfl rfl ?_
      refine EL_val (R_move rfl) rfl rfl rfl ?_
      first | refine EL_val (R_move rfl) rfl rfl rfl ?_ | refine EL_not rfl rfl rfl ?_
      first | refine EL_val (R_indexAddr rfl rfl Try.underlying23 K.sz5 (m := 8) rfl (by omega)) rfl rfl rfl ?_ | refine EL_not rfl rfl rfl ?_
      first | refine EL_val (R_load rfl K.ag5 (((hn1.mods.trans hm2).cell hc8 id))) rfl rfl rfl ?_ | refine EL_not rfl rfl rfl ?_
      first | refine EL_val (R_gtr_t rfl rfl (by omega)) rfl rfl rfl ?_ | refine EL_val (R_gtr_f rfl rfl (by omega)) rfl rfl rfl ?_ | refine EL_not rfl rfl rfl ?_
      first | refine EL_val (R_pick_t rfl rfl) rfl rfl rfl ?_ | refine EL_val (R_pick_f rfl rfl) rfl rfl rfl ?_
      refine EL_nil ?_
      refine E_cond_t rfl ?_
      refine E_seqR ?_
      refine EL_val (R_build (cells := #[.int .i64 0, .slice none 0 0]) K.zr61 K.pl61 rfl rfl) rfl rfl rfl ?_
      refine EL_step rfl ?_
      refine EO_storeAggB (hm2.bk' hn1.bk) rfl rfl K.sz61 rfl rfl ?_
      intro w3 hu3
      refine EL_val (R_assign rfl) rfl rfl rfl ?_
      refine EL_nil ?_
      refine E_ret ?_
      refine thenQ_r ?_
      refine ret_ct (.inr rfl) rfl rfl rfl K.ag61 (by exact K.sz61) (whole_cells hu3.bk) ?_
      exact ⟨rfl, (hn1.mods.trans hm2).trans' hu3.mods fun k hk hk' => by omega⟩
    · obtain ⟨s, hsq⟩ : ∃ s, s = dSeq l := ⟨_, rfl⟩
      obtain ⟨ks, hks⟩ : ∃ ks, ks = dTo l := ⟨_, rfl⟩
      have hs' : (leN ((l.drop 4).take 4) : Int) = s := hsq.symm
      have hk' : numsS l 10 2 x = ks := by rw [hks, dTo, ← hx]
      have hkl : ks.length = x := by rw [← hk', numsS_length]
      have heq : beginsS l = if soundS s ks && decide (beginB s ks = l) then some (s, ks) else none := by
        unfold beginsS
        rw [hs, ← hx, decide_eq_true (show x ≤ 20 by omega), hsq, hks]
        simp
      refine Ret.enter Try.func57 rfl Try.ntmps57 rfl ?_
      simp only [argEnv, Nat.reduceAdd]
      refine E_seqR ?_
      refine EL_step rfl ?_
      refine EO_alloc K.zr61 rfl ?_
      intro w1 hn1
      refine EL_val (R_assign rfl) rfl rfl rfl ?_
      refine EL_nil ?_
      refine E_seq ?_
      refine E_seqR ?_
      refine EL_val (R_move rfl) rfl rfl rfl ?_
      refine EL_step rfl ?_
      refine EO_call K.bd51 rfl rfl ((by have := sealed_ok (hl.no hn1.mods) hc (by omega); rw [hs] at this; exact this)) ?_
      rintro _ w2 ⟨rfl, hm2⟩
      refine EL_val (R_not rfl) rfl rfl rfl ?_
      refine EL_val (R_move rfl) rfl rfl rfl ?_
      first | refine EL_val (R_move rfl) rfl rfl rfl ?_ | refine EL_not rfl rfl rfl ?_
      first | refine EL_val (R_indexAddr rfl rfl Try.underlying23 K.sz5 (m := 8) rfl (by omega)) rfl rfl rfl ?_ | refine EL_not rfl rfl rfl ?_
      first | refine EL_val (R_load rfl K.ag5 (((hn1.mods.trans hm2).cell hc8 id))) rfl rfl rfl ?_ | refine EL_not rfl rfl rfl ?_
      first | refine EL_val (R_gtr_t rfl rfl (by omega)) rfl rfl rfl ?_ | refine EL_val (R_gtr_f rfl rfl (by omega)) rfl rfl rfl ?_ | refine EL_not rfl rfl rfl ?_
      first | refine EL_val (R_pick_t rfl rfl) rfl rfl rfl ?_ | refine EL_val (R_pick_f rfl rfl) rfl rfl rfl ?_
      refine EL_nil ?_
      refine E_cond_f rfl ?_
      refine E_skip ?_
      refine thenQ_n ?_
      have hX := hm2.bk' hn1.bk
      have hm0 := hn1.mods.trans hm2
      have hS : w.heap.size < w2.heap.size := by have := hn1.size; have := hm2.size; omega
      obtain ⟨rr, hrr⟩ : ∃ rr, rr = w.heap.size := ⟨_, rfl⟩
      rw [← hrr] at hX ⊢
      refine E_seq ?_
      refine E_cut (fun e0 w' => ∃ dd Au cu, e0 = [(0, .slice (some ⟨g, o, none⟩) l.length c), (2, ptr rr), (4, ptr dd)] ∧ Bk w' dd #[.int .i64 s, .slice Au x cu] 61 ∧ Bk w' rr (Value.agg #[.int .i64 0, .slice none 0 0]).cells 61 ∧ w'.ownsRow w.heap.size 3 1 (.slice Au x cu) x (ival ks) ∧ x ≤ cu ∧ Mods No w w' ∧ rr ≠ dd) ?_ ?_
      · skip
        have hc8 := hm0.cell hc8 id
        have hL := hl.no hm0
        refine E_regionD (fun _ => [(7, fun W => W.cell? ⟨g, o + 8 * 1, none⟩ = some (.int .u8 (x : Int)))]) 11 K.mix rfl ?_
        intro wc hm hh0
        (have hc8 := hm.cell hc8 id; have hL := hL.no hm; have hX := hm.bk' hX; have hS := Nat.lt_of_lt_of_le hS hm.size; have hm0 := hm0.trans hm; (try have hO := hm.own hO (fun _ _ h => h)); (try have hD := hm.bk' hD); (try have hD2 := Nat.lt_of_lt_of_le hD2 hm.size))
        refine EA_pure 0 rfl (fun _ => R_move rfl) (by kernel_rfl) rfl rfl rfl ?_
        refine EA_pure 2 rfl (fun _ => R_move rfl) (by kernel_rfl) rfl rfl rfl ?_
        refine EA_pure 3 rfl (fun _ => R_move rfl) (by kernel_rfl) rfl rfl rfl ?_
        refine EA_pure 4 rfl (fun _ => R_indexAddr rfl rfl Try.underlying23 K.sz5 (m := 8) rfl (by omega)) (by kernel_rfl) rfl rfl rfl ?_
        refine EA_load 5 0 [6, 7, 8, 10] rfl rfl K.ag5 rfl (by kernel_rfl) (by kernel_rfl) rfl rfl ?_
        refine EA_pure 6 rfl (fun _ => R_convInt (x : Int) (wrap_i64_in (by omega) (by omega)) rfl Try.underlying5 Try.underlying3) (by kernel_rfl) rfl rfl rfl ?_
        refine EA_two 1 9 rfl rfl  (by kernel_rfl) rfl rfl (⟨fun _ => hc8, trivial⟩) ?_ ?_ 
        · refine EO_call K.bd52 rfl rfl ((by have := num_ok (a := 4) (size := 4) hL hc (by omega) (by omega) (by omega) (by omega); rw [hs'] at this; exact this)) ?_
          rintro _ _ ⟨rfl, rfl⟩
          refine EA_two 7 9 rfl rfl  (by kernel_rfl) rfl rfl (⟨fun _ => hc8, trivial⟩) ?_ ?_ 
          · refine EO_call K.bd65 rfl rfl ((by have := nums_ok (a := 10) (size := 2) (count := x) hL hc (by omega) (by omega) (by omega) (by omega); rw [hk'] at this; exact this)) ?_
            rintro u wc ⟨hO, hm⟩
            (have hc8 := hm.cell hc8 id; have hL := hL.no hm; have hX := hm.bk' hX; have hS := Nat.lt_of_lt_of_le hS hm.size; have hm0 := hm0.trans hm; (try have hO := hm.own hO (fun _ _ h => h)); (try have hD := hm.bk' hD); (try have hD2 := Nat.lt_of_lt_of_le hD2 hm.size); have hO := own_mono hO (B := w.heap.size) (by omega); obtain ⟨Au, cu, rfl, hcu, hsp⟩ := own_sl hO)
            refine EA_pure 8 rfl (fun _ => R_build (cells := #[.int .i64 s, .slice Au x cu]) K.zr61 K.pl61 rfl rfl) (by kernel_rfl) rfl rfl rfl ?_
            refine EA_one 9 rfl  (by kernel_rfl) rfl (⟨fun _ => hc8, trivial⟩) ?_ 
            refine EO_alloc K.zr61 rfl ?_
            intro wc hn
            (have hD1 : rr < _ := (by rw [hrr]; exact hS); have hm := hn.mods; have hc8 := hm.cell hc8 id; have hL := hL.no hm; have hX := hm.bk' hX; have hS := Nat.lt_of_lt_of_le hS hm.size; have hm0 := hm0.trans hm; (try have hO := hm.own hO (fun _ _ h => h)); (try have hD := hm.bk' hD); (try have hD2 := Nat.lt_of_lt_of_le hD2 hm.size); have hD := hn.bk)
            refine EA_one 10 rfl  (by kernel_rfl) rfl (⟨fun _ => hc8, trivial⟩) ?_ 
            refine EO_storeWhole hD rfl rfl K.sz61 rfl rfl ?_
            intro wc hu
            refine EA_done (by kernel_rfl) (Holds.done (by kernel_rfl)) ?_
            refine thenQ_n ?_
            (exact ⟨rfl, [(0, .slice (some ⟨g, o, none⟩) l.length c), (2, ptr rr), (4, ptr _)], ⟨rfl, rfl, rfl, trivial⟩, _, Au, cu, rfl, hu.bk, hu.mods.bk hX (by omega), own_upd hO hu hD (by decide), hcu, hm0.trans' hu.mods (fun k hk hk' => by omega), by omega⟩)
          · refine EO_alloc K.zr61 rfl ?_
            intro wc hn
            (have hD1 : rr < _ := (by rw [hrr]; exact hS); have hm := hn.mods; have hc8 := hm.cell hc8 id; have hL := hL.no hm; have hX := hm.bk' hX; have hS := Nat.lt_of_lt_of_le hS hm.size; have hm0 := hm0.trans hm; (try have hO := hm.own hO (fun _ _ h => h)); (try have hD := hm.bk' hD); (try have hD2 := Nat.lt_of_lt_of_le hD2 hm.size); have hD := hn.bk)
            refine EA_one 7 rfl  (by kernel_rfl) rfl (⟨fun _ => hc8, trivial⟩) ?_ 
            refine EO_call K.bd65 rfl rfl ((by have := nums_ok (a := 10) (size := 2) (count := x) hL hc (by omega) (by omega) (by omega) (by omega); rw [hk'] at this; exact this)) ?_
            rintro u wc ⟨hO, hm⟩
            (have hc8 := hm.cell hc8 id; have hL := hL.no hm; have hX := hm.bk' hX; have hS := Nat.lt_of_lt_of_le hS hm.size; have hm0 := hm0.trans hm; (try have hO := hm.own hO (fun _ _ h => h)); (try have hD := hm.bk' hD); (try have hD2 := Nat.lt_of_lt_of_le hD2 hm.size); have hO := own_mono hO (B := w.heap.size) (by omega); obtain ⟨Au, cu, rfl, hcu, hsp⟩ := own_sl hO)
            refine EA_pure 8 rfl (fun _ => R_build (cells := #[.int .i64 s, .slice Au x cu]) K.zr61 K.pl61 rfl rfl) (by kernel_rfl) rfl rfl rfl ?_
            refine EA_one 10 rfl  (by kernel_rfl) rfl (⟨fun _ => hc8, trivial⟩) ?_ 
            refine EO_storeWhole hD rfl rfl K.sz61 rfl rfl ?_
            intro wc hu
            refine EA_done (by kernel_rfl) (Holds.done (by kernel_rfl)) ?_
            refine thenQ_n ?_
            (exact ⟨rfl, [(0, .slice (some ⟨g, o, none⟩) l.length c), (2, ptr rr), (4, ptr _)], ⟨rfl, rfl, rfl, trivial⟩, _, Au, cu, rfl, hu.bk, hu.mods.bk hX (by omega), own_upd hO hu hD (by decide), hcu, hm0.trans' hu.mods (fun k hk hk' => by omega), by omega⟩)
        · refine EO_alloc K.zr61 rfl ?_
          intro wc hn
          (have hD1 : rr < _ := (by rw [hrr]; exact hS); have hm := hn.mods; have hc8 := hm.cell hc8 id; have hL := hL.no hm; have hX := hm.bk' hX; have hS := Nat.lt_of_lt_of_le hS hm.size; have hm0 := hm0.trans hm; (try have hO := hm.own hO (fun _ _ h => h)); (try have hD := hm.bk' hD); (try have hD2 := Nat.lt_of_lt_of_le hD2 hm.size); have hD := hn.bk)
          refine EA_one 1 rfl  (by kernel_rfl) rfl (⟨fun _ => hc8, trivial⟩) ?_ 
          refine EO_call K.bd52 rfl rfl ((by have := num_ok (a := 4) (size := 4) hL hc (by omega) (by omega) (by omega) (by omega); rw [hs'] at this; exact this)) ?_
          rintro _ _ ⟨rfl, rfl⟩
          refine EA_one 7 rfl  (by kernel_rfl) rfl (⟨fun _ => hc8, trivial⟩) ?_ 
          refine EO_call K.bd65 rfl rfl ((by have := nums_ok (a := 10) (size := 2) (count := x) hL hc (by omega) (by omega) (by omega) (by omega); rw [hk'] at this; exact this)) ?_
          rintro u wc ⟨hO, hm⟩
          (have hc8 := hm.cell hc8 id; have hL := hL.no hm; have hX := hm.bk' hX; have hS := Nat.lt_of_lt_of_le hS hm.size; have hm0 := hm0.trans hm; (try have hO := hm.own hO (fun _ _ h => h)); (try have hD := hm.bk' hD); (try have hD2 := Nat.lt_of_lt_of_le hD2 hm.size); have hO := own_mono hO (B := w.heap.size) (by omega); obtain ⟨Au, cu, rfl, hcu, hsp⟩ := own_sl hO)
          refine EA_pure 8 rfl (fun _ => R_build (cells := #[.int .i64 s, .slice Au x cu]) K.zr61 K.pl61 rfl rfl) (by kernel_rfl) rfl rfl rfl ?_
          refine EA_one 10 rfl  (by kernel_rfl) rfl (⟨fun _ => hc8, trivial⟩) ?_ 
          refine EO_storeWhole hD rfl rfl K.sz61 rfl rfl ?_
          intro wc hu
          refine EA_done (by kernel_rfl) (Holds.done (by kernel_rfl)) ?_
          refine thenQ_n ?_
          (exact ⟨rfl, [(0, .slice (some ⟨g, o, none⟩) l.length c), (2, ptr rr), (4, ptr _)], ⟨rfl, rfl, rfl, trivial⟩, _, Au, cu, rfl, hu.bk, hu.mods.bk hX (by omega), own_upd hO hu hD (by decide), hcu, hm0.trans' hu.mods (fun k hk hk' => by omega), by omega⟩)
      · clear hX hm0 hS
        rintro e0 w3 ⟨dd, Au, cu, rfl, hD, hX, hO, hcu, hm03, hne⟩
        subst hkl
        have hI : IS w3 Au ks := Src.own hO
        cases hsn : soundS s ks
        · have e : beginsS l = none := by rw [heq, hsn]; rfl
          rw [e]
          refine E_seq ?_
          refine E_seqR ?_
          refine EL_val (R_loadAgg rfl K.ag61 (whole_cells hD) (K.sz61)) rfl rfl rfl ?_
          refine EL_step rfl ?_
          refine EO_call K.bd21 rfl rfl ((by have := begin_ok (s := s) hI hcu (by omega); rw [hsn] at this; exact this)) ?_
          rintro _ w4 ⟨rfl, hm4⟩
          refine EL_val (R_move rfl) rfl rfl rfl ?_
          refine EL_val (R_extract rfl rfl) rfl rfl rfl ?_
          refine EL_val (R_extract rfl rfl) rfl rfl rfl ?_
          refine EL_val (R_assign rfl) rfl rfl rfl ?_
          refine EL_val (R_assign rfl) rfl rfl rfl ?_
          refine EL_nil ?_
          refine E_seqR ?_
          refine EL_val (R_move rfl) rfl rfl rfl ?_
          first | refine EL_val (R_neq_t rfl rfl (by omega)) rfl rfl rfl ?_ | refine EL_val (R_neq_f rfl rfl (by omega)) rfl rfl rfl ?_
          refine EL_val (R_move rfl) rfl rfl rfl ?_
          first | refine EL_val (R_move rfl) rfl rfl rfl ?_ | refine EL_not rfl rfl rfl ?_
          first | refine EL_val (R_move rfl) rfl rfl rfl ?_ | refine EL_not rfl rfl rfl ?_
          refine EL_not rfl rfl rfl ?_
          first | refine EL_val (R_not rfl) rfl rfl rfl ?_ | refine EL_not rfl rfl rfl ?_
          first | refine EL_val (R_pick_t rfl rfl) rfl rfl rfl ?_ | refine EL_val (R_pick_f rfl rfl) rfl rfl rfl ?_
          refine EL_nil ?_
          refine E_cond_t rfl ?_
          refine E_seqR ?_
          refine EL_val (R_build (cells := #[.int .i64 0, .slice none 0 0]) K.zr61 K.pl61 rfl rfl) rfl rfl rfl ?_
          refine EL_step rfl ?_
          refine EO_storeAggB (hm4.bk' hX) rfl rfl K.sz61 rfl rfl ?_
          intro w5 hu5
          refine EL_val (R_assign rfl) rfl rfl rfl ?_
          refine EL_nil ?_
          refine E_ret ?_
          refine thenQ_r ?_
          refine ret_ct (.inr rfl) rfl rfl rfl K.ag61 (by exact K.sz61) (whole_cells hu5.bk) ?_
          exact ⟨rfl, (hm03.trans hm4).trans' hu5.mods fun k hk hk' => by omega⟩
        · obtain ⟨f1, f2, f3, f4, f5⟩ := soundS_facts hsn
          have hbl := beginB_length s ks f4
          by_cases hb : beginB s ks = l
          · have e : beginsS l = some (s, ks) := by rw [heq, hsn]; simp [hb]
            rw [e]
            refine E_seq ?_
            refine E_seqR ?_
            refine EL_val (R_loadAgg rfl K.ag61 (whole_cells hD) (K.sz61)) rfl rfl rfl ?_
            refine EL_step rfl ?_
            refine EO_call K.bd21 rfl rfl ((by have := begin_ok (s := s) hI hcu (by omega); rw [hsn] at this; exact this)) ?_
            rintro _ w4 ⟨⟨u, rfl, ho⟩, hm4⟩
            (obtain ⟨gu, cu', rfl, _, _, _, _, hbu⟩ := ho.form (by omega))
            refine EL_val (R_move rfl) rfl rfl rfl ?_
            refine EL_val (R_extract rfl rfl) rfl rfl rfl ?_
            refine EL_val (R_extract rfl rfl) rfl rfl rfl ?_
            refine EL_val (R_assign rfl) rfl rfl rfl ?_
            refine EL_val (R_assign rfl) rfl rfl rfl ?_
            refine EL_nil ?_
            refine E_seqR ?_
            refine EL_val (R_move rfl) rfl rfl rfl ?_
            first | refine EL_val (R_neq_t rfl rfl (by omega)) rfl rfl rfl ?_ | refine EL_val (R_neq_f rfl rfl (by omega)) rfl rfl rfl ?_
            refine EL_val (R_move rfl) rfl rfl rfl ?_
            first | refine EL_val (R_move rfl) rfl rfl rfl ?_ | refine EL_not rfl rfl rfl ?_
            first | refine EL_val (R_move rfl) rfl rfl rfl ?_ | refine EL_not rfl rfl rfl ?_
            refine EL_step rfl ?_
            refine EO_call K.bd53 rfl rfl (ret_t (bequal_ok hbu (hl.no (hm03.trans hm4))) (decide_eq_true hb)) ?_
            rintro _ _ ⟨rfl, rfl⟩
            first | refine EL_val (R_not rfl) rfl rfl rfl ?_ | refine EL_not rfl rfl rfl ?_
            first | refine EL_val (R_pick_t rfl rfl) rfl rfl rfl ?_ | refine EL_val (R_pick_f rfl rfl) rfl rfl rfl ?_
            refine EL_nil ?_
            refine E_cond_f rfl ?_
            refine E_skip ?_
            refine thenQ_n ?_
            refine E_seqR ?_
            refine EL_val (R_loadAgg rfl K.ag61 (whole_cells (hm4.bk' hD)) (K.sz61)) rfl rfl rfl ?_
            refine EL_step rfl ?_
            refine EO_storeWhole (hm4.bk' hX) rfl rfl K.sz61 rfl rfl ?_
            intro w5 hu5
            refine EL_val (R_assign rfl) rfl rfl rfl ?_
            refine EL_nil ?_
            refine E_ret ?_
            refine ret_ct (.inr rfl) rfl rfl rfl K.ag61 (by exact K.sz61) (whole_cells hu5.bk) ?_
            exact ⟨⟨_, rfl, own_mono (own_upd (hm4.own hO fun _ _ h => h) hu5 (hm4.bk' hX) (by decide)) (by omega)⟩, (hm03.trans hm4).trans' hu5.mods fun k hk hk' => by omega⟩
          · have e : beginsS l = none := by rw [heq, hsn]; simp [hb]
            rw [e]
            refine E_seq ?_
            refine E_seqR ?_
            refine EL_val (R_loadAgg rfl K.ag61 (whole_cells hD) (K.sz61)) rfl rfl rfl ?_
            refine EL_step rfl ?_
            refine EO_call K.bd21 rfl rfl ((by have := begin_ok (s := s) hI hcu (by omega); rw [hsn] at this; exact this)) ?_
            rintro _ w4 ⟨⟨u, rfl, ho⟩, hm4⟩
            (obtain ⟨gu, cu', rfl, _, _, _, _, hbu⟩ := ho.form (by omega))
            refine EL_val (R_move rfl) rfl rfl rfl ?_
            refine EL_val (R_extract rfl rfl) rfl rfl rfl ?_
            refine EL_val (R_extract rfl rfl) rfl rfl rfl ?_
            refine EL_val (R_assign rfl) rfl rfl rfl ?_
            refine EL_val (R_assign rfl) rfl rfl rfl ?_
            refine EL_nil ?_
            refine E_seqR ?_
            refine EL_val (R_move rfl) rfl rfl rfl ?_
            first | refine EL_val (R_neq_t rfl rfl (by omega)) rfl rfl rfl ?_ | refine EL_val (R_neq_f rfl rfl (by omega)) rfl rfl rfl ?_
            refine EL_val (R_move rfl) rfl rfl rfl ?_
            first | refine EL_val (R_move rfl) rfl rfl rfl ?_ | refine EL_not rfl rfl rfl ?_
            first | refine EL_val (R_move rfl) rfl rfl rfl ?_ | refine EL_not rfl rfl rfl ?_
            refine EL_step rfl ?_
            refine EO_call K.bd53 rfl rfl (ret_f (bequal_ok hbu (hl.no (hm03.trans hm4))) (decide_eq_false hb)) ?_
            rintro _ _ ⟨rfl, rfl⟩
            first | refine EL_val (R_not rfl) rfl rfl rfl ?_ | refine EL_not rfl rfl rfl ?_
            first | refine EL_val (R_pick_t rfl rfl) rfl rfl rfl ?_ | refine EL_val (R_pick_f rfl rfl) rfl rfl rfl ?_
            refine EL_nil ?_
            refine E_cond_t rfl ?_
            refine E_seqR ?_
            refine EL_val (R_build (cells := #[.int .i64 0, .slice none 0 0]) K.zr61 K.pl61 rfl rfl) rfl rfl rfl ?_
            refine EL_step rfl ?_
            refine EO_storeAggB (hm4.bk' hX) rfl rfl K.sz61 rfl rfl ?_
            intro w5 hu5
            refine EL_val (R_assign rfl) rfl rfl rfl ?_
            refine EL_nil ?_
            refine E_ret ?_
            refine thenQ_r ?_
            refine ret_ct (.inr rfl) rfl rfl rfl K.ag61 (by exact K.sz61) (whole_cells hu5.bk) ?_
            exact ⟨rfl, (hm03.trans hm4).trans' hu5.mods fun k hk hk' => by omega⟩
end Go.Proofs.Ytobhogdndfbniaa
