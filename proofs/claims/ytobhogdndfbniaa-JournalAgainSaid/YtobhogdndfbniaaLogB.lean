/- The log's blocks written and read (package log). -/
import Derived.Test.YtobhogdndfbniaaLog
set_option linter.unusedVariables false
set_option linter.unusedSimpArgs false
set_option maxRecDepth 100000
namespace Go.Proofs.Ytobhogdndfbniaa
open Go.EW Go.RowKit

def beginB (seq : Int) (ks : List Int) : List UInt8 := sealS (setS (setS (setS ([66, 69, 71, 78] ++ zerosB 60) 4 4 [seq]) 8 1 [(ks.length : Int)]) 10 2 ks)
def endB (seq count : Int) : List UInt8 := sealS (setS (setS ([68, 79, 78, 69] ++ zerosB 60) 4 4 [seq]) 8 1 [count])
def endOk (seq count : Int) : Bool := decide (1 ≤ seq ∧ seq ≤ 1073741824 ∧ 1 ≤ count ∧ count ≤ 20)
theorem IS.off {T : TypeId → Prop} {B : Nat} {w : World} {A : Option Addr} {ks : List Int} (h : IS w A ks) (h0 : 0 < ks.length) (hB : w.heap.size ≤ B) : Off T B w A := fun g i hA => by
  obtain ⟨g', o, hA', hc⟩ := h.cell h0
  rw [hA] at hA'
  injection hA' with hA'
  injection hA' with h1 h2 _
  subst h1
  have hlt : g < w.heap.size := World.block_lt_of_cell? w _ hc
  exact ⟨hlt, fun hf => by have := hf.1; omega⟩
theorem soundS_facts {s : Int} {ks : List Int} (h : soundS s ks = true) : 1 ≤ s ∧ s ≤ 1073741824 ∧ 1 ≤ ks.length ∧ ks.length ≤ 20 ∧ ∀ k ∈ ks, 0 ≤ k ∧ k < 480 := by
  unfold soundS at h
  simp only [Bool.and_eq_true, decide_eq_true_eq, List.all_eq_true] at h
  obtain ⟨⟨h1, h2⟩, h3⟩ := h
  refine ⟨h2.1, h2.2, h3.1, h3.2, fun k hk => ?_⟩
  obtain ⟨i, hi, rfl⟩ := List.getElem_of_mem hk
  have := h1 i (by simpa using hi)
  simp only [goodAt, List.getD_eq_getElem?_getD, List.getElem?_eq_getElem hi, Option.getD_some, Bool.and_eq_true, homeS, decide_eq_true_eq] at this
  omega
set_option maxHeartbeats 1000000 in
theorem begin_ok {w : World} {A : Option Addr} {ks : List Int} {c : Nat} {s : Int} (hk : IS w A ks) (hc : ks.length ≤ c) (hlen : ks.length ≤ 9223372036854775806) :
    Ret Try.prog 21 [.agg #[.int .i64 s, .slice A ks.length c]] w fun v w' => (if soundS s ks then ∃ u, v = .tuple #[u, .int .i64 0] ∧ OB w.heap.size w' u (beginB s ks) else v = .tuple #[.slice none 0 0, .int .i64 2]) ∧ Mods No w w' := by
  by_cases h20 : 20 < ks.length
  · have e : soundS s ks = false := by
      cases h : soundS s ks
      · rfl
      · have := (soundS_facts h).2.2.2.1; omega
    rw [e]
    refine Ret.enter Try.func21 rfl Try.ntmps21 rfl ?_
    simp only [argEnv, Nat.reduceAdd]
    refine E_seqR ?_
    refine EL_step rfl ?_
    refine EO_box rfl rfl ?_
    intro w1 hn1
    refine EL_val (R_assign rfl) rfl rfl rfl ?_
    refine EL_val (R_assign rfl) rfl rfl rfl ?_
    refine EL_nil ?_
    refine E_seq ?_
    refine E_seqR ?_
    refine EL_val (R_fieldAddr rfl K.fT61_1) rfl rfl rfl ?_
    refine EL_val (R_load rfl K.ag54 (hn1.bk.cell rfl)) rfl rfl rfl ?_
    refine EL_val (R_lenSlice rfl Try.underlying54) rfl rfl rfl ?_
    first | refine EL_val (R_gtr_t rfl rfl (by omega)) rfl rfl rfl ?_ | refine EL_val (R_gtr_f rfl rfl (by omega)) rfl rfl rfl ?_
    refine EL_val (R_move rfl) rfl rfl rfl ?_
    refine EL_not rfl rfl rfl ?_
    refine EL_not rfl rfl rfl ?_
    first | refine EL_val (R_not rfl) rfl rfl rfl ?_ | refine EL_not rfl rfl rfl ?_
    first | refine EL_val (R_pick_t rfl rfl) rfl rfl rfl ?_ | refine EL_val (R_pick_f rfl rfl) rfl rfl rfl ?_
    refine EL_nil ?_
    refine E_cond_t rfl ?_
    refine E_seqR ?_
    refine EL_val (R_assign rfl) rfl rfl rfl ?_
    refine EL_val (R_assign rfl) rfl rfl rfl ?_
    refine EL_nil ?_
    refine E_ret ?_
    refine thenQ_r ?_
    refine ret2 (.inr rfl) rfl rfl rfl ?_
    exact ⟨rfl, hn1.mods⟩
  · have hcell : ∀ {w1 : World}, New w w1 (.cells (Value.agg #[.int .i64 s, .slice A ks.length c]).cells 61) → Cells w1 w.heap.size (0 + 0) #[.int .i64 s, .slice A ks.length c] := fun hn => hn.bk.cells 0 _ fun j v hj => by rw [Nat.zero_add]; exact hj
    cases hs : soundS s ks
    · refine Ret.enter Try.func21 rfl Try.ntmps21 rfl ?_
      simp only [argEnv, Nat.reduceAdd]
      refine E_seqR ?_
      refine EL_step rfl ?_
      refine EO_box rfl rfl ?_
      intro w1 hn1
      refine EL_val (R_assign rfl) rfl rfl rfl ?_
      refine EL_val (R_assign rfl) rfl rfl rfl ?_
      refine EL_nil ?_
      refine E_seq ?_
      refine E_seqR ?_
      refine EL_val (R_fieldAddr rfl K.fT61_1) rfl rfl rfl ?_
      refine EL_val (R_load rfl K.ag54 (hn1.bk.cell rfl)) rfl rfl rfl ?_
      refine EL_val (R_lenSlice rfl Try.underlying54) rfl rfl rfl ?_
      first | refine EL_val (R_gtr_t rfl rfl (by omega)) rfl rfl rfl ?_ | refine EL_val (R_gtr_f rfl rfl (by omega)) rfl rfl rfl ?_
      refine EL_val (R_move rfl) rfl rfl rfl ?_
      first | refine EL_val (R_loadAgg rfl K.ag61 (hcell hn1) (K.sz61)) rfl rfl rfl ?_ | refine EL_not rfl rfl rfl ?_
      refine EL_step rfl ?_
      refine EO_call K.bd35 rfl rfl ((by have := sound_ok (s := s) (hk.no hn1.mods) hc hlen; rw [hs] at this; exact this)) ?_
      rintro _ w2 ⟨rfl, hm2⟩
      first | refine EL_val (R_not rfl) rfl rfl rfl ?_ | refine EL_not rfl rfl rfl ?_
      first | refine EL_val (R_pick_t rfl rfl) rfl rfl rfl ?_ | refine EL_val (R_pick_f rfl rfl) rfl rfl rfl ?_
      refine EL_nil ?_
      refine E_cond_t rfl ?_
      refine E_seqR ?_
      refine EL_val (R_assign rfl) rfl rfl rfl ?_
      refine EL_val (R_assign rfl) rfl rfl rfl ?_
      refine EL_nil ?_
      refine E_ret ?_
      refine thenQ_r ?_
      refine ret2 (.inr rfl) rfl rfl rfl ?_
      exact ⟨rfl, hn1.mods.trans hm2⟩
    · obtain ⟨f1, f2, f3, f4, f5⟩ := soundS_facts hs
      obtain ⟨B, hB⟩ : ∃ B, B = w.heap.size := ⟨_, rfl⟩
      refine Ret.enter Try.func21 rfl Try.ntmps21 rfl ?_
      simp only [argEnv, Nat.reduceAdd]
      refine E_seqR ?_
      refine EL_step rfl ?_
      refine EO_box rfl rfl ?_
      intro w1 hn1
      refine EL_val (R_assign rfl) rfl rfl rfl ?_
      refine EL_val (R_assign rfl) rfl rfl rfl ?_
      refine EL_nil ?_
      refine E_seq ?_
      refine E_seqR ?_
      refine EL_val (R_fieldAddr rfl K.fT61_1) rfl rfl rfl ?_
      refine EL_val (R_load rfl K.ag54 (hn1.bk.cell rfl)) rfl rfl rfl ?_
      refine EL_val (R_lenSlice rfl Try.underlying54) rfl rfl rfl ?_
      first | refine EL_val (R_gtr_t rfl rfl (by omega)) rfl rfl rfl ?_ | refine EL_val (R_gtr_f rfl rfl (by omega)) rfl rfl rfl ?_
      refine EL_val (R_move rfl) rfl rfl rfl ?_
      first | refine EL_val (R_loadAgg rfl K.ag61 (hcell hn1) (K.sz61)) rfl rfl rfl ?_ | refine EL_not rfl rfl rfl ?_
      refine EL_step rfl ?_
      refine EO_call K.bd35 rfl rfl ((by have := sound_ok (s := s) (hk.no hn1.mods) hc hlen; rw [hs] at this; exact this)) ?_
      rintro _ w2 ⟨rfl, hm2⟩
      first | refine EL_val (R_not rfl) rfl rfl rfl ?_ | refine EL_not rfl rfl rfl ?_
      first | refine EL_val (R_pick_t rfl rfl) rfl rfl rfl ?_ | refine EL_val (R_pick_f rfl rfl) rfl rfl rfl ?_
      refine EL_nil ?_
      refine E_cond_f rfl ?_
      refine E_skip ?_
      refine thenQ_n ?_
      have hX := hm2.bk' hn1.bk
      have hm0 := hn1.mods.trans hm2
      have hS : B ≤ w2.heap.size := by have := hm0.size; omega
      have hW : TM U8 B w w2 := TM.of_no hm0
      have hI3 := hk.no hm0
      have hO3 : Off U8 B w2 A := (hk.off (T := U8) (by omega) (by omega)).tm hW
      obtain ⟨bx, hbx⟩ : ∃ bx, bx = w.heap.size := ⟨_, rfl⟩
      rw [← hbx] at hX ⊢
      refine E_seqD (fun _ => [(13, fun W => W.cell? ⟨bx, 0 + 0, none⟩ = some (.int .i64 s)), (13, fun W => W.cell? ⟨bx, 0 + 1, none⟩ = some (.slice A ks.length c))]) 16 K.mix rfl ?_
      intro wc hm0 hh0
      (have hm := TM.of_no (T := U8) (B := B) hm0; (try have hI1 := hI1.tm hO1 hm); (try have hO1 := hO1.tm hm); (try have hI2 := hI2.tm hO2 hm); (try have hO2 := hO2.tm hm); have hI3 := hI3.tm hO3 hm; have hO3 := hO3.tm hm; have hX := TM.bk hm hX (by decide); have hS := Nat.le_trans hS hm.size; have hW := hW.trans hm)
      refine EA_pure 1 rfl (fun _ => R_fieldAddr rfl K.fT61_0) (by kernel_rfl) rfl rfl rfl ?_
      refine EA_load 2 0 [3, 4, 9, 12, 13, 14, 15] rfl rfl K.ag3 rfl (by kernel_rfl) (by kernel_rfl) rfl rfl ?_
      refine EA_pure 5 rfl (fun _ => R_fieldAddr rfl K.fT61_1) (by kernel_rfl) rfl rfl rfl ?_
      refine EA_load 6 1 [7, 8, 9, 12, 13, 14, 15] rfl rfl K.ag54 rfl (by kernel_rfl) (by kernel_rfl) rfl rfl ?_
      refine EA_pure 7 rfl (fun _ => R_lenSlice rfl Try.underlying54) (by kernel_rfl) rfl rfl rfl ?_
      refine EA_pure 10 rfl (fun _ => R_fieldAddr rfl K.fT61_1) (by kernel_rfl) rfl rfl rfl ?_
      refine EA_load 11 1 [12, 13, 14, 15] rfl rfl K.ag54 rfl (by kernel_rfl) (by kernel_rfl) rfl rfl ?_
      refine EA_three 0 3 8 rfl rfl rfl  (by kernel_rfl) rfl rfl rfl (⟨fun _ => hX.cell rfl, fun _ => hX.cell rfl, trivial⟩) ?_ ?_ ?_ 
      · refine EO_call K.bd36 rfl rfl (newpage_ok (by decide)) ?_
        rintro _ wc ⟨p, rfl, hP, hm0⟩
        (have hP := hP.mono hS; have hm := TM.of_no (T := U8) (B := B) hm0; (try have hI1 := hI1.tm hO1 hm); (try have hO1 := hO1.tm hm); (try have hI2 := hI2.tm hO2 hm); (try have hO2 := hO2.tm hm); have hI3 := hI3.tm hO3 hm; have hO3 := hO3.tm hm; have hX := TM.bk hm hX (by decide); have hS := Nat.le_trans hS hm.size; have hW := hW.trans hm)
        refine EA_two 3 8 rfl rfl  (by kernel_rfl) rfl rfl (⟨fun _ => hX.cell rfl, fun _ => hX.cell rfl, trivial⟩) ?_ ?_ 
        · refine EO_buildSlice Try.underlying54 K.zr3 K.sz3 rfl rfl rfl (fill_whole rfl (by rw [size_madeCells])) rfl ?_
          intro wc hn
          (have hm := TM.of_no (T := U8) (B := B) hn.mods; (try have hP := hP.no hn.mods); (try have hI1 := hI1.tm hO1 hm); (try have hO1 := hO1.tm hm); (try have hI2 := hI2.tm hO2 hm); (try have hO2 := hO2.tm hm); have hI3 := hI3.tm hO3 hm; have hO3 := hO3.tm hm; have hX := TM.bk hm hX (by decide); have hS := Nat.le_trans hS hm.size; have hW := hW.trans hm; have hI1 := isNew hn; have hO1 := offNew (B := B) hn)
          refine EA_two 4 8 rfl rfl  (by kernel_rfl) rfl rfl (⟨fun _ => hX.cell rfl, fun _ => hX.cell rfl, trivial⟩) ?_ ?_ 
          · refine EO_call K.bd37 rfl rfl (pageset_ok (a := 4) (size := 4) (ks := [s]) hP hI1 hO1 (by omega) (by omega) (by simp) (by simp) (by omega)) ?_
            rintro _ wc ⟨rfl, hP, hm⟩
            ((try have hI1 := hI1.tm hO1 hm); (try have hO1 := hO1.tm hm); (try have hI2 := hI2.tm hO2 hm); (try have hO2 := hO2.tm hm); have hI3 := hI3.tm hO3 hm; have hO3 := hO3.tm hm; have hX := TM.bk hm hX (by decide); have hS := Nat.le_trans hS hm.size; have hW := hW.trans hm)
            refine EA_one 8 rfl  (by kernel_rfl) rfl (⟨fun _ => hX.cell rfl, fun _ => hX.cell rfl, trivial⟩) ?_ 
            refine EO_buildSlice Try.underlying54 K.zr3 K.sz3 rfl rfl rfl (fill_whole rfl (by rw [size_madeCells])) rfl ?_
            intro wc hn
            (have hm := TM.of_no (T := U8) (B := B) hn.mods; (try have hP := hP.no hn.mods); (try have hI1 := hI1.tm hO1 hm); (try have hO1 := hO1.tm hm); (try have hI2 := hI2.tm hO2 hm); (try have hO2 := hO2.tm hm); have hI3 := hI3.tm hO3 hm; have hO3 := hO3.tm hm; have hX := TM.bk hm hX (by decide); have hS := Nat.le_trans hS hm.size; have hW := hW.trans hm; have hI2 := isNew hn; have hO2 := offNew (B := B) hn)
            refine EA_one 9 rfl  (by kernel_rfl) rfl (⟨fun _ => hX.cell rfl, fun _ => hX.cell rfl, trivial⟩) ?_ 
            refine EO_call K.bd37 rfl rfl (pageset_ok (a := 8) (size := 1) (ks := [(ks.length : Int)]) hP hI2 hO2 (by omega) (by omega) (by simp) (by simp) (by omega)) ?_
            rintro _ wc ⟨rfl, hP, hm⟩
            ((try have hI1 := hI1.tm hO1 hm); (try have hO1 := hO1.tm hm); (try have hI2 := hI2.tm hO2 hm); (try have hO2 := hO2.tm hm); have hI3 := hI3.tm hO3 hm; have hO3 := hO3.tm hm; have hX := TM.bk hm hX (by decide); have hS := Nat.le_trans hS hm.size; have hW := hW.trans hm)
            refine EA_one 12 rfl  (by kernel_rfl) rfl (⟨fun _ => hX.cell rfl, fun _ => hX.cell rfl, trivial⟩) ?_ 
            refine EO_call K.bd37 rfl rfl (pageset_ok (a := 10) (size := 2) (ks := ks) (c := c) hP hI3 hO3 (by omega) (by omega) (by omega) (by omega) (by omega)) ?_
            rintro _ wc ⟨rfl, hP, hm⟩
            ((try have hI1 := hI1.tm hO1 hm); (try have hO1 := hO1.tm hm); (try have hI2 := hI2.tm hO2 hm); (try have hO2 := hO2.tm hm); have hI3 := hI3.tm hO3 hm; have hO3 := hO3.tm hm; have hX := TM.bk hm hX (by decide); have hS := Nat.le_trans hS hm.size; have hW := hW.trans hm)
            refine EA_one 13 rfl  (by kernel_rfl) rfl (⟨fun _ => hX.cell rfl, fun _ => hX.cell rfl, trivial⟩) ?_ 
            refine EO_call K.bd38 rfl rfl (pageseal_ok hP) ?_
            rintro u wc ⟨ho, hm0⟩
            refine EA_pure 14 rfl (fun _ => R_assign rfl) (by kernel_rfl) rfl rfl rfl ?_
            refine EA_pure 15 rfl (fun _ => R_assign rfl) (by kernel_rfl) rfl rfl rfl ?_
            refine EA_done (by kernel_rfl) (Holds.done (by kernel_rfl)) ?_
            refine E_ret ?_
            refine ret2 (.inr rfl) rfl rfl rfl ?_
            (exact ⟨⟨u, rfl, ho.mono (by omega)⟩, TM.no_of (Mods.refl _ _) (hW.trans (TM.of_no hm0)) (by omega)⟩)
          · refine EO_buildSlice Try.underlying54 K.zr3 K.sz3 rfl rfl rfl (fill_whole rfl (by rw [size_madeCells])) rfl ?_
            intro wc hn
            (have hm := TM.of_no (T := U8) (B := B) hn.mods; (try have hP := hP.no hn.mods); (try have hI1 := hI1.tm hO1 hm); (try have hO1 := hO1.tm hm); (try have hI2 := hI2.tm hO2 hm); (try have hO2 := hO2.tm hm); have hI3 := hI3.tm hO3 hm; have hO3 := hO3.tm hm; have hX := TM.bk hm hX (by decide); have hS := Nat.le_trans hS hm.size; have hW := hW.trans hm; have hI2 := isNew hn; have hO2 := offNew (B := B) hn)
            refine EA_one 4 rfl  (by kernel_rfl) rfl (⟨fun _ => hX.cell rfl, fun _ => hX.cell rfl, trivial⟩) ?_ 
            refine EO_call K.bd37 rfl rfl (pageset_ok (a := 4) (size := 4) (ks := [s]) hP hI1 hO1 (by omega) (by omega) (by simp) (by simp) (by omega)) ?_
            rintro _ wc ⟨rfl, hP, hm⟩
            ((try have hI1 := hI1.tm hO1 hm); (try have hO1 := hO1.tm hm); (try have hI2 := hI2.tm hO2 hm); (try have hO2 := hO2.tm hm); have hI3 := hI3.tm hO3 hm; have hO3 := hO3.tm hm; have hX := TM.bk hm hX (by decide); have hS := Nat.le_trans hS hm.size; have hW := hW.trans hm)
            refine EA_one 9 rfl  (by kernel_rfl) rfl (⟨fun _ => hX.cell rfl, fun _ => hX.cell rfl, trivial⟩) ?_ 
            refine EO_call K.bd37 rfl rfl (pageset_ok (a := 8) (size := 1) (ks := [(ks.length : Int)]) hP hI2 hO2 (by omega) (by omega) (by simp) (by simp) (by omega)) ?_
            rintro _ wc ⟨rfl, hP, hm⟩
            ((try have hI1 := hI1.tm hO1 hm); (try have hO1 := hO1.tm hm); (try have hI2 := hI2.tm hO2 hm); (try have hO2 := hO2.tm hm); have hI3 := hI3.tm hO3 hm; have hO3 := hO3.tm hm; have hX := TM.bk hm hX (by decide); have hS := Nat.le_trans hS hm.size; have hW := hW.trans hm)
            refine EA_one 12 rfl  (by kernel_rfl) rfl (⟨fun _ => hX.cell rfl, fun _ => hX.cell rfl, trivial⟩) ?_ 
            refine EO_call K.bd37 rfl rfl (pageset_ok (a := 10) (size := 2) (ks := ks) (c := c) hP hI3 hO3 (by omega) (by omega) (by omega) (by omega) (by omega)) ?_
            rintro _ wc ⟨rfl, hP, hm⟩
            ((try have hI1 := hI1.tm hO1 hm); (try have hO1 := hO1.tm hm); (try have hI2 := hI2.tm hO2 hm); (try have hO2 := hO2.tm hm); have hI3 := hI3.tm hO3 hm; have hO3 := hO3.tm hm; have hX := TM.bk hm hX (by decide); have hS := Nat.le_trans hS hm.size; have hW := hW.trans hm)
            refine EA_one 13 rfl  (by kernel_rfl) rfl (⟨fun _ => hX.cell rfl, fun _ => hX.cell rfl, trivial⟩) ?_ 
            refine EO_call K.bd38 rfl rfl (pageseal_ok hP) ?_
            rintro u wc ⟨ho, hm0⟩
            refine EA_pure 14 rfl (fun _ => R_assign rfl) (by kernel_rfl) rfl rfl rfl ?_
            refine EA_pure 15 rfl (fun _ => R_assign rfl) (by kernel_rfl) rfl rfl rfl ?_
            refine EA_done (by kernel_rfl) (Holds.done (by kernel_rfl)) ?_
            refine E_ret ?_
            refine ret2 (.inr rfl) rfl rfl rfl ?_
            (exact ⟨⟨u, rfl, ho.mono (by omega)⟩, TM.no_of (Mods.refl _ _) (hW.trans (TM.of_no hm0)) (by omega)⟩)
        · refine EO_buildSlice Try.underlying54 K.zr3 K.sz3 rfl rfl rfl (fill_whole rfl (by rw [size_madeCells])) rfl ?_
          intro wc hn
          (have hm := TM.of_no (T := U8) (B := B) hn.mods; (try have hP := hP.no hn.mods); (try have hI1 := hI1.tm hO1 hm); (try have hO1 := hO1.tm hm); (try have hI2 := hI2.tm hO2 hm); (try have hO2 := hO2.tm hm); have hI3 := hI3.tm hO3 hm; have hO3 := hO3.tm hm; have hX := TM.bk hm hX (by decide); have hS := Nat.le_trans hS hm.size; have hW := hW.trans hm; have hI2 := isNew hn; have hO2 := offNew (B := B) hn)
          refine EA_one 3 rfl  (by kernel_rfl) rfl (⟨fun _ => hX.cell rfl, fun _ => hX.cell rfl, trivial⟩) ?_ 
          refine EO_buildSlice Try.underlying54 K.zr3 K.sz3 rfl rfl rfl (fill_whole rfl (by rw [size_madeCells])) rfl ?_
          intro wc hn
          (have hm := TM.of_no (T := U8) (B := B) hn.mods; (try have hP := hP.no hn.mods); (try have hI1 := hI1.tm hO1 hm); (try have hO1 := hO1.tm hm); (try have hI2 := hI2.tm hO2 hm); (try have hO2 := hO2.tm hm); have hI3 := hI3.tm hO3 hm; have hO3 := hO3.tm hm; have hX := TM.bk hm hX (by decide); have hS := Nat.le_trans hS hm.size; have hW := hW.trans hm; have hI1 := isNew hn; have hO1 := offNew (B := B) hn)
          refine EA_one 4 rfl  (by kernel_rfl) rfl (⟨fun _ => hX.cell rfl, fun _ => hX.cell rfl, trivial⟩) ?_ 
          refine EO_call K.bd37 rfl rfl (pageset_ok (a := 4) (size := 4) (ks := [s]) hP hI1 hO1 (by omega) (by omega) (by simp) (by simp) (by omega)) ?_
          rintro _ wc ⟨rfl, hP, hm⟩
          ((try have hI1 := hI1.tm hO1 hm); (try have hO1 := hO1.tm hm); (try have hI2 := hI2.tm hO2 hm); (try have hO2 := hO2.tm hm); have hI3 := hI3.tm hO3 hm; have hO3 := hO3.tm hm; have hX := TM.bk hm hX (by decide); have hS := Nat.le_trans hS hm.size; have hW := hW.trans hm)
          refine EA_one 9 rfl  (by kernel_rfl) rfl (⟨fun _ => hX.cell rfl, fun _ => hX.cell rfl, trivial⟩) ?_ 
          refine EO_call K.bd37 rfl rfl (pageset_ok (a := 8) (size := 1) (ks := [(ks.length : Int)]) hP hI2 hO2 (by omega) (by omega) (by simp) (by simp) (by omega)) ?_
          rintro _ wc ⟨rfl, hP, hm⟩
          ((try have hI1 := hI1.tm hO1 hm); (try have hO1 := hO1.tm hm); (try have hI2 := hI2.tm hO2 hm); (try have hO2 := hO2.tm hm); have hI3 := hI3.tm hO3 hm; have hO3 := hO3.tm hm; have hX := TM.bk hm hX (by decide); have hS := Nat.le_trans hS hm.size; have hW := hW.trans hm)
          refine EA_one 12 rfl  (by kernel_rfl) rfl (⟨fun _ => hX.cell rfl, fun _ => hX.cell rfl, trivial⟩) ?_ 
          refine EO_call K.bd37 rfl rfl (pageset_ok (a := 10) (size := 2) (ks := ks) (c := c) hP hI3 hO3 (by omega) (by omega) (by omega) (by omega) (by omega)) ?_
          rintro _ wc ⟨rfl, hP, hm⟩
          ((try have hI1 := hI1.tm hO1 hm); (try have hO1 := hO1.tm hm); (try have hI2 := hI2.tm hO2 hm); (try have hO2 := hO2.tm hm); have hI3 := hI3.tm hO3 hm; have hO3 := hO3.tm hm; have hX := TM.bk hm hX (by decide); have hS := Nat.le_trans hS hm.size; have hW := hW.trans hm)
          refine EA_one 13 rfl  (by kernel_rfl) rfl (⟨fun _ => hX.cell rfl, fun _ => hX.cell rfl, trivial⟩) ?_ 
          refine EO_call K.bd38 rfl rfl (pageseal_ok hP) ?_
          rintro u wc ⟨ho, hm0⟩
          refine EA_pure 14 rfl (fun _ => R_assign rfl) (by kernel_rfl) rfl rfl rfl ?_
          refine EA_pure 15 rfl (fun _ => R_assign rfl) (by kernel_rfl) rfl rfl rfl ?_
          refine EA_done (by kernel_rfl) (Holds.done (by kernel_rfl)) ?_
          refine E_ret ?_
          refine ret2 (.inr rfl) rfl rfl rfl ?_
          (exact ⟨⟨u, rfl, ho.mono (by omega)⟩, TM.no_of (Mods.refl _ _) (hW.trans (TM.of_no hm0)) (by omega)⟩)
      · refine EO_buildSlice Try.underlying54 K.zr3 K.sz3 rfl rfl rfl (fill_whole rfl (by rw [size_madeCells])) rfl ?_
        intro wc hn
        (have hm := TM.of_no (T := U8) (B := B) hn.mods; (try have hP := hP.no hn.mods); (try have hI1 := hI1.tm hO1 hm); (try have hO1 := hO1.tm hm); (try have hI2 := hI2.tm hO2 hm); (try have hO2 := hO2.tm hm); have hI3 := hI3.tm hO3 hm; have hO3 := hO3.tm hm; have hX := TM.bk hm hX (by decide); have hS := Nat.le_trans hS hm.size; have hW := hW.trans hm; have hI1 := isNew hn; have hO1 := offNew (B := B) hn)
        refine EA_two 0 8 rfl rfl  (by kernel_rfl) rfl rfl (⟨fun _ => hX.cell rfl, fun _ => hX.cell rfl, trivial⟩) ?_ ?_ 
        · refine EO_call K.bd36 rfl rfl (newpage_ok (by decide)) ?_
          rintro _ wc ⟨p, rfl, hP, hm0⟩
          (have hP := hP.mono hS; have hm := TM.of_no (T := U8) (B := B) hm0; (try have hI1 := hI1.tm hO1 hm); (try have hO1 := hO1.tm hm); (try have hI2 := hI2.tm hO2 hm); (try have hO2 := hO2.tm hm); have hI3 := hI3.tm hO3 hm; have hO3 := hO3.tm hm; have hX := TM.bk hm hX (by decide); have hS := Nat.le_trans hS hm.size; have hW := hW.trans hm)
          refine EA_two 4 8 rfl rfl  (by kernel_rfl) rfl rfl (⟨fun _ => hX.cell rfl, fun _ => hX.cell rfl, trivial⟩) ?_ ?_ 
          · refine EO_call K.bd37 rfl rfl (pageset_ok (a := 4) (size := 4) (ks := [s]) hP hI1 hO1 (by omega) (by omega) (by simp) (by simp) (by omega)) ?_
            rintro _ wc ⟨rfl, hP, hm⟩
            ((try have hI1 := hI1.tm hO1 hm); (try have hO1 := hO1.tm hm); (try have hI2 := hI2.tm hO2 hm); (try have hO2 := hO2.tm hm); have hI3 := hI3.tm hO3 hm; have hO3 := hO3.tm hm; have hX := TM.bk hm hX (by decide); have hS := Nat.le_trans hS hm.size; have hW := hW.trans hm)
            refine EA_one 8 rfl  (by kernel_rfl) rfl (⟨fun _ => hX.cell rfl, fun _ => hX.cell rfl, trivial⟩) ?_ 
            refine EO_buildSlice Try.underlying54 K.zr3 K.sz3 rfl rfl rfl (fill_whole rfl (by rw [size_madeCells])) rfl ?_
            intro wc hn
            (have hm := TM.of_no (T := U8) (B := B) hn.mods; (try have hP := hP.no hn.mods); (try have hI1 := hI1.tm hO1 hm); (try have hO1 := hO1.tm hm); (try have hI2 := hI2.tm hO2 hm); (try have hO2 := hO2.tm hm); have hI3 := hI3.tm hO3 hm; have hO3 := hO3.tm hm; have hX := TM.bk hm hX (by decide); have hS := Nat.le_trans hS hm.size; have hW := hW.trans hm; have hI2 := isNew hn; have hO2 := offNew (B := B) hn)
            refine EA_one 9 rfl  (by kernel_rfl) rfl (⟨fun _ => hX.cell rfl, fun _ => hX.cell rfl, trivial⟩) ?_ 
            refine EO_call K.bd37 rfl rfl (pageset_ok (a := 8) (size := 1) (ks := [(ks.length : Int)]) hP hI2 hO2 (by omega) (by omega) (by simp) (by simp) (by omega)) ?_
            rintro _ wc ⟨rfl, hP, hm⟩
            ((try have hI1 := hI1.tm hO1 hm); (try have hO1 := hO1.tm hm); (try have hI2 := hI2.tm hO2 hm); (try have hO2 := hO2.tm hm); have hI3 := hI3.tm hO3 hm; have hO3 := hO3.tm hm; have hX := TM.bk hm hX (by decide); have hS := Nat.le_trans hS hm.size; have hW := hW.trans hm)
            refine EA_one 12 rfl  (by kernel_rfl) rfl (⟨fun _ => hX.cell rfl, fun _ => hX.cell rfl, trivial⟩) ?_ 
            refine EO_call K.bd37 rfl rfl (pageset_ok (a := 10) (size := 2) (ks := ks) (c := c) hP hI3 hO3 (by omega) (by omega) (by omega) (by omega) (by omega)) ?_
            rintro _ wc ⟨rfl, hP, hm⟩
            ((try have hI1 := hI1.tm hO1 hm); (try have hO1 := hO1.tm hm); (try have hI2 := hI2.tm hO2 hm); (try have hO2 := hO2.tm hm); have hI3 := hI3.tm hO3 hm; have hO3 := hO3.tm hm; have hX := TM.bk hm hX (by decide); have hS := Nat.le_trans hS hm.size; have hW := hW.trans hm)
            refine EA_one 13 rfl  (by kernel_rfl) rfl (⟨fun _ => hX.cell rfl, fun _ => hX.cell rfl, trivial⟩) ?_ 
            refine EO_call K.bd38 rfl rfl (pageseal_ok hP) ?_
            rintro u wc ⟨ho, hm0⟩
            refine EA_pure 14 rfl (fun _ => R_assign rfl) (by kernel_rfl) rfl rfl rfl ?_
            refine EA_pure 15 rfl (fun _ => R_assign rfl) (by kernel_rfl) rfl rfl rfl ?_
            refine EA_done (by kernel_rfl) (Holds.done (by kernel_rfl)) ?_
            refine E_ret ?_
            refine ret2 (.inr rfl) rfl rfl rfl ?_
            (exact ⟨⟨u, rfl, ho.mono (by omega)⟩, TM.no_of (Mods.refl _ _) (hW.trans (TM.of_no hm0)) (by omega)⟩)
          · refine EO_buildSlice Try.underlying54 K.zr3 K.sz3 rfl rfl rfl (fill_whole rfl (by rw [size_madeCells])) rfl ?_
            intro wc hn
            (have hm := TM.of_no (T := U8) (B := B) hn.mods; (try have hP := hP.no hn.mods); (try have hI1 := hI1.tm hO1 hm); (try have hO1 := hO1.tm hm); (try have hI2 := hI2.tm hO2 hm); (try have hO2 := hO2.tm hm); have hI3 := hI3.tm hO3 hm; have hO3 := hO3.tm hm; have hX := TM.bk hm hX (by decide); have hS := Nat.le_trans hS hm.size; have hW := hW.trans hm; have hI2 := isNew hn; have hO2 := offNew (B := B) hn)
            refine EA_one 4 rfl  (by kernel_rfl) rfl (⟨fun _ => hX.cell rfl, fun _ => hX.cell rfl, trivial⟩) ?_ 
            refine EO_call K.bd37 rfl rfl (pageset_ok (a := 4) (size := 4) (ks := [s]) hP hI1 hO1 (by omega) (by omega) (by simp) (by simp) (by omega)) ?_
            rintro _ wc ⟨rfl, hP, hm⟩
            ((try have hI1 := hI1.tm hO1 hm); (try have hO1 := hO1.tm hm); (try have hI2 := hI2.tm hO2 hm); (try have hO2 := hO2.tm hm); have hI3 := hI3.tm hO3 hm; have hO3 := hO3.tm hm; have hX := TM.bk hm hX (by decide); have hS := Nat.le_trans hS hm.size; have hW := hW.trans hm)
            refine EA_one 9 rfl  (by kernel_rfl) rfl (⟨fun _ => hX.cell rfl, fun _ => hX.cell rfl, trivial⟩) ?_ 
            refine EO_call K.bd37 rfl rfl (pageset_ok (a := 8) (size := 1) (ks := [(ks.length : Int)]) hP hI2 hO2 (by omega) (by omega) (by simp) (by simp) (by omega)) ?_
            rintro _ wc ⟨rfl, hP, hm⟩
            ((try have hI1 := hI1.tm hO1 hm); (try have hO1 := hO1.tm hm); (try have hI2 := hI2.tm hO2 hm); (try have hO2 := hO2.tm hm); have hI3 := hI3.tm hO3 hm; have hO3 := hO3.tm hm; have hX := TM.bk hm hX (by decide); have hS := Nat.le_trans hS hm.size; have hW := hW.trans hm)
            refine EA_one 12 rfl  (by kernel_rfl) rfl (⟨fun _ => hX.cell rfl, fun _ => hX.cell rfl, trivial⟩) ?_ 
            refine EO_call K.bd37 rfl rfl (pageset_ok (a := 10) (size := 2) (ks := ks) (c := c) hP hI3 hO3 (by omega) (by omega) (by omega) (by omega) (by omega)) ?_
            rintro _ wc ⟨rfl, hP, hm⟩
            ((try have hI1 := hI1.tm hO1 hm); (try have hO1 := hO1.tm hm); (try have hI2 := hI2.tm hO2 hm); (try have hO2 := hO2.tm hm); have hI3 := hI3.tm hO3 hm; have hO3 := hO3.tm hm; have hX := TM.bk hm hX (by decide); have hS := Nat.le_trans hS hm.size; have hW := hW.trans hm)
            refine EA_one 13 rfl  (by kernel_rfl) rfl (⟨fun _ => hX.cell rfl, fun _ => hX.cell rfl, trivial⟩) ?_ 
            refine EO_call K.bd38 rfl rfl (pageseal_ok hP) ?_
            rintro u wc ⟨ho, hm0⟩
            refine EA_pure 14 rfl (fun _ => R_assign rfl) (by kernel_rfl) rfl rfl rfl ?_
            refine EA_pure 15 rfl (fun _ => R_assign rfl) (by kernel_rfl) rfl rfl rfl ?_
            refine EA_done (by kernel_rfl) (Holds.done (by kernel_rfl)) ?_
            refine E_ret ?_
            refine ret2 (.inr rfl) rfl rfl rfl ?_
            (exact ⟨⟨u, rfl, ho.mono (by omega)⟩, TM.no_of (Mods.refl _ _) (hW.trans (TM.of_no hm0)) (by omega)⟩)
        · refine EO_buildSlice Try.underlying54 K.zr3 K.sz3 rfl rfl rfl (fill_whole rfl (by rw [size_madeCells])) rfl ?_
          intro wc hn
          (have hm := TM.of_no (T := U8) (B := B) hn.mods; (try have hP := hP.no hn.mods); (try have hI1 := hI1.tm hO1 hm); (try have hO1 := hO1.tm hm); (try have hI2 := hI2.tm hO2 hm); (try have hO2 := hO2.tm hm); have hI3 := hI3.tm hO3 hm; have hO3 := hO3.tm hm; have hX := TM.bk hm hX (by decide); have hS := Nat.le_trans hS hm.size; have hW := hW.trans hm; have hI2 := isNew hn; have hO2 := offNew (B := B) hn)
          refine EA_one 0 rfl  (by kernel_rfl) rfl (⟨fun _ => hX.cell rfl, fun _ => hX.cell rfl, trivial⟩) ?_ 
          refine EO_call K.bd36 rfl rfl (newpage_ok (by decide)) ?_
          rintro _ wc ⟨p, rfl, hP, hm0⟩
          (have hP := hP.mono hS; have hm := TM.of_no (T := U8) (B := B) hm0; (try have hI1 := hI1.tm hO1 hm); (try have hO1 := hO1.tm hm); (try have hI2 := hI2.tm hO2 hm); (try have hO2 := hO2.tm hm); have hI3 := hI3.tm hO3 hm; have hO3 := hO3.tm hm; have hX := TM.bk hm hX (by decide); have hS := Nat.le_trans hS hm.size; have hW := hW.trans hm)
          refine EA_one 4 rfl  (by kernel_rfl) rfl (⟨fun _ => hX.cell rfl, fun _ => hX.cell rfl, trivial⟩) ?_ 
          refine EO_call K.bd37 rfl rfl (pageset_ok (a := 4) (size := 4) (ks := [s]) hP hI1 hO1 (by omega) (by omega) (by simp) (by simp) (by omega)) ?_
          rintro _ wc ⟨rfl, hP, hm⟩
          ((try have hI1 := hI1.tm hO1 hm); (try have hO1 := hO1.tm hm); (try have hI2 := hI2.tm hO2 hm); (try have hO2 := hO2.tm hm); have hI3 := hI3.tm hO3 hm; have hO3 := hO3.tm hm; have hX := TM.bk hm hX (by decide); have hS := Nat.le_trans hS hm.size; have hW := hW.trans hm)
          refine EA_one 9 rfl  (by kernel_rfl) rfl (⟨fun _ => hX.cell rfl, fun _ => hX.cell rfl, trivial⟩) ?_ 
          refine EO_call K.bd37 rfl rfl (pageset_ok (a := 8) (size := 1) (ks := [(ks.length : Int)]) hP hI2 hO2 (by omega) (by omega) (by simp) (by simp) (by omega)) ?_
          rintro _ wc ⟨rfl, hP, hm⟩
          ((try have hI1 := hI1.tm hO1 hm); (try have hO1 := hO1.tm hm); (try have hI2 := hI2.tm hO2 hm); (try have hO2 := hO2.tm hm); have hI3 := hI3.tm hO3 hm; have hO3 := hO3.tm hm; have hX := TM.bk hm hX (by decide); have hS := Nat.le_trans hS hm.size; have hW := hW.trans hm)
          refine EA_one 12 rfl  (by kernel_rfl) rfl (⟨fun _ => hX.cell rfl, fun _ => hX.cell rfl, trivial⟩) ?_ 
          refine EO_call K.bd37 rfl rfl (pageset_ok (a := 10) (size := 2) (ks := ks) (c := c) hP hI3 hO3 (by omega) (by omega) (by omega) (by omega) (by omega)) ?_
          rintro _ wc ⟨rfl, hP, hm⟩
          ((try have hI1 := hI1.tm hO1 hm); (try have hO1 := hO1.tm hm); (try have hI2 := hI2.tm hO2 hm); (try have hO2 := hO2.tm hm); have hI3 := hI3.tm hO3 hm; have hO3 := hO3.tm hm; have hX := TM.bk hm hX (by decide); have hS := Nat.le_trans hS hm.size; have hW := hW.trans hm)
          refine EA_one 13 rfl  (by kernel_rfl) rfl (⟨fun _ => hX.cell rfl, fun _ => hX.cell rfl, trivial⟩) ?_ 
          refine EO_call K.bd38 rfl rfl (pageseal_ok hP) ?_
          rintro u wc ⟨ho, hm0⟩
          refine EA_pure 14 rfl (fun _ => R_assign rfl) (by kernel_rfl) rfl rfl rfl ?_
          refine EA_pure 15 rfl (fun _ => R_assign rfl) (by kernel_rfl) rfl rfl rfl ?_
          refine EA_done (by kernel_rfl) (Holds.done (by kernel_rfl)) ?_
          refine E_ret ?_
          refine ret2 (.inr rfl) rfl rfl rfl ?_
          (exact ⟨⟨u, rfl, ho.mono (by omega)⟩, TM.no_of (Mods.refl _ _) (hW.trans (TM.of_no hm0)) (by omega)⟩)
      · refine EO_buildSlice Try.underlying54 K.zr3 K.sz3 rfl rfl rfl (fill_whole rfl (by rw [size_madeCells])) rfl ?_
        intro wc hn
        (have hm := TM.of_no (T := U8) (B := B) hn.mods; (try have hP := hP.no hn.mods); (try have hI1 := hI1.tm hO1 hm); (try have hO1 := hO1.tm hm); (try have hI2 := hI2.tm hO2 hm); (try have hO2 := hO2.tm hm); have hI3 := hI3.tm hO3 hm; have hO3 := hO3.tm hm; have hX := TM.bk hm hX (by decide); have hS := Nat.le_trans hS hm.size; have hW := hW.trans hm; have hI2 := isNew hn; have hO2 := offNew (B := B) hn)
        refine EA_two 0 3 rfl rfl  (by kernel_rfl) rfl rfl (⟨fun _ => hX.cell rfl, fun _ => hX.cell rfl, trivial⟩) ?_ ?_ 
        · refine EO_call K.bd36 rfl rfl (newpage_ok (by decide)) ?_
          rintro _ wc ⟨p, rfl, hP, hm0⟩
          (have hP := hP.mono hS; have hm := TM.of_no (T := U8) (B := B) hm0; (try have hI1 := hI1.tm hO1 hm); (try have hO1 := hO1.tm hm); (try have hI2 := hI2.tm hO2 hm); (try have hO2 := hO2.tm hm); have hI3 := hI3.tm hO3 hm; have hO3 := hO3.tm hm; have hX := TM.bk hm hX (by decide); have hS := Nat.le_trans hS hm.size; have hW := hW.trans hm)
          refine EA_one 3 rfl  (by kernel_rfl) rfl (⟨fun _ => hX.cell rfl, fun _ => hX.cell rfl, trivial⟩) ?_ 
          refine EO_buildSlice Try.underlying54 K.zr3 K.sz3 rfl rfl rfl (fill_whole rfl (by rw [size_madeCells])) rfl ?_
          intro wc hn
          (have hm := TM.of_no (T := U8) (B := B) hn.mods; (try have hP := hP.no hn.mods); (try have hI1 := hI1.tm hO1 hm); (try have hO1 := hO1.tm hm); (try have hI2 := hI2.tm hO2 hm); (try have hO2 := hO2.tm hm); have hI3 := hI3.tm hO3 hm; have hO3 := hO3.tm hm; have hX := TM.bk hm hX (by decide); have hS := Nat.le_trans hS hm.size; have hW := hW.trans hm; have hI1 := isNew hn; have hO1 := offNew (B := B) hn)
          refine EA_one 4 rfl  (by kernel_rfl) rfl (⟨fun _ => hX.cell rfl, fun _ => hX.cell rfl, trivial⟩) ?_ 
          refine EO_call K.bd37 rfl rfl (pageset_ok (a := 4) (size := 4) (ks := [s]) hP hI1 hO1 (by omega) (by omega) (by simp) (by simp) (by omega)) ?_
          rintro _ wc ⟨rfl, hP, hm⟩
          ((try have hI1 := hI1.tm hO1 hm); (try have hO1 := hO1.tm hm); (try have hI2 := hI2.tm hO2 hm); (try have hO2 := hO2.tm hm); have hI3 := hI3.tm hO3 hm; have hO3 := hO3.tm hm; have hX := TM.bk hm hX (by decide); have hS := Nat.le_trans hS hm.size; have hW := hW.trans hm)
          refine EA_one 9 rfl  (by kernel_rfl) rfl (⟨fun _ => hX.cell rfl, fun _ => hX.cell rfl, trivial⟩) ?_ 
          refine EO_call K.bd37 rfl rfl (pageset_ok (a := 8) (size := 1) (ks := [(ks.length : Int)]) hP hI2 hO2 (by omega) (by omega) (by simp) (by simp) (by omega)) ?_
          rintro _ wc ⟨rfl, hP, hm⟩
          ((try have hI1 := hI1.tm hO1 hm); (try have hO1 := hO1.tm hm); (try have hI2 := hI2.tm hO2 hm); (try have hO2 := hO2.tm hm); have hI3 := hI3.tm hO3 hm; have hO3 := hO3.tm hm; have hX := TM.bk hm hX (by decide); have hS := Nat.le_trans hS hm.size; have hW := hW.trans hm)
          refine EA_one 12 rfl  (by kernel_rfl) rfl (⟨fun _ => hX.cell rfl, fun _ => hX.cell rfl, trivial⟩) ?_ 
          refine EO_call K.bd37 rfl rfl (pageset_ok (a := 10) (size := 2) (ks := ks) (c := c) hP hI3 hO3 (by omega) (by omega) (by omega) (by omega) (by omega)) ?_
          rintro _ wc ⟨rfl, hP, hm⟩
          ((try have hI1 := hI1.tm hO1 hm); (try have hO1 := hO1.tm hm); (try have hI2 := hI2.tm hO2 hm); (try have hO2 := hO2.tm hm); have hI3 := hI3.tm hO3 hm; have hO3 := hO3.tm hm; have hX := TM.bk hm hX (by decide); have hS := Nat.le_trans hS hm.size; have hW := hW.trans hm)
          refine EA_one 13 rfl  (by kernel_rfl) rfl (⟨fun _ => hX.cell rfl, fun _ => hX.cell rfl, trivial⟩) ?_ 
          refine EO_call K.bd38 rfl rfl (pageseal_ok hP) ?_
          rintro u wc ⟨ho, hm0⟩
          refine EA_pure 14 rfl (fun _ => R_assign rfl) (by kernel_rfl) rfl rfl rfl ?_
          refine EA_pure 15 rfl (fun _ => R_assign rfl) (by kernel_rfl) rfl rfl rfl ?_
          refine EA_done (by kernel_rfl) (Holds.done (by kernel_rfl)) ?_
          refine E_ret ?_
          refine ret2 (.inr rfl) rfl rfl rfl ?_
          (exact ⟨⟨u, rfl, ho.mono (by omega)⟩, TM.no_of (Mods.refl _ _) (hW.trans (TM.of_no hm0)) (by omega)⟩)
        · refine EO_buildSlice Try.underlying54 K.zr3 K.sz3 rfl rfl rfl (fill_whole rfl (by rw [size_madeCells])) rfl ?_
          intro wc hn
          (have hm := TM.of_no (T := U8) (B := B) hn.mods; (try have hP := hP.no hn.mods); (try have hI1 := hI1.tm hO1 hm); (try have hO1 := hO1.tm hm); (try have hI2 := hI2.tm hO2 hm); (try have hO2 := hO2.tm hm); have hI3 := hI3.tm hO3 hm; have hO3 := hO3.tm hm; have hX := TM.bk hm hX (by decide); have hS := Nat.le_trans hS hm.size; have hW := hW.trans hm; have hI1 := isNew hn; have hO1 := offNew (B := B) hn)
          refine EA_one 0 rfl  (by kernel_rfl) rfl (⟨fun _ => hX.cell rfl, fun _ => hX.cell rfl, trivial⟩) ?_ 
          refine EO_call K.bd36 rfl rfl (newpage_ok (by decide)) ?_
          rintro _ wc ⟨p, rfl, hP, hm0⟩
          (have hP := hP.mono hS; have hm := TM.of_no (T := U8) (B := B) hm0; (try have hI1 := hI1.tm hO1 hm); (try have hO1 := hO1.tm hm); (try have hI2 := hI2.tm hO2 hm); (try have hO2 := hO2.tm hm); have hI3 := hI3.tm hO3 hm; have hO3 := hO3.tm hm; have hX := TM.bk hm hX (by decide); have hS := Nat.le_trans hS hm.size; have hW := hW.trans hm)
          refine EA_one 4 rfl  (by kernel_rfl) rfl (⟨fun _ => hX.cell rfl, fun _ => hX.cell rfl, trivial⟩) ?_ 
          refine EO_call K.bd37 rfl rfl (pageset_ok (a := 4) (size := 4) (ks := [s]) hP hI1 hO1 (by omega) (by omega) (by simp) (by simp) (by omega)) ?_
          rintro _ wc ⟨rfl, hP, hm⟩
          ((try have hI1 := hI1.tm hO1 hm); (try have hO1 := hO1.tm hm); (try have hI2 := hI2.tm hO2 hm); (try have hO2 := hO2.tm hm); have hI3 := hI3.tm hO3 hm; have hO3 := hO3.tm hm; have hX := TM.bk hm hX (by decide); have hS := Nat.le_trans hS hm.size; have hW := hW.trans hm)
          refine EA_one 9 rfl  (by kernel_rfl) rfl (⟨fun _ => hX.cell rfl, fun _ => hX.cell rfl, trivial⟩) ?_ 
          refine EO_call K.bd37 rfl rfl (pageset_ok (a := 8) (size := 1) (ks := [(ks.length : Int)]) hP hI2 hO2 (by omega) (by omega) (by simp) (by simp) (by omega)) ?_
          rintro _ wc ⟨rfl, hP, hm⟩
          ((try have hI1 := hI1.tm hO1 hm); (try have hO1 := hO1.tm hm); (try have hI2 := hI2.tm hO2 hm); (try have hO2 := hO2.tm hm); have hI3 := hI3.tm hO3 hm; have hO3 := hO3.tm hm; have hX := TM.bk hm hX (by decide); have hS := Nat.le_trans hS hm.size; have hW := hW.trans hm)
          refine EA_one 12 rfl  (by kernel_rfl) rfl (⟨fun _ => hX.cell rfl, fun _ => hX.cell rfl, trivial⟩) ?_ 
          refine EO_call K.bd37 rfl rfl (pageset_ok (a := 10) (size := 2) (ks := ks) (c := c) hP hI3 hO3 (by omega) (by omega) (by omega) (by omega) (by omega)) ?_
          rintro _ wc ⟨rfl, hP, hm⟩
          ((try have hI1 := hI1.tm hO1 hm); (try have hO1 := hO1.tm hm); (try have hI2 := hI2.tm hO2 hm); (try have hO2 := hO2.tm hm); have hI3 := hI3.tm hO3 hm; have hO3 := hO3.tm hm; have hX := TM.bk hm hX (by decide); have hS := Nat.le_trans hS hm.size; have hW := hW.trans hm)
          refine EA_one 13 rfl  (by kernel_rfl) rfl (⟨fun _ => hX.cell rfl, fun _ => hX.cell rfl, trivial⟩) ?_ 
          refine EO_call K.bd38 rfl rfl (pageseal_ok hP) ?_
          rintro u wc ⟨ho, hm0⟩
          refine EA_pure 14 rfl (fun _ => R_assign rfl) (by kernel_rfl) rfl rfl rfl ?_
          refine EA_pure 15 rfl (fun _ => R_assign rfl) (by kernel_rfl) rfl rfl rfl ?_
          refine EA_done (by kernel_rfl) (Holds.done (by kernel_rfl)) ?_
          refine E_ret ?_
          refine ret2 (.inr rfl) rfl rfl rfl ?_
          (exact ⟨⟨u, rfl, ho.mono (by omega)⟩, TM.no_of (Mods.refl _ _) (hW.trans (TM.of_no hm0)) (by omega)⟩)
theorem end_ok {w : World} {s n : Int} :
    Ret Try.prog 22 [.int .i64 s, .int .i64 n] w fun v w' => (if endOk s n then ∃ u, v = .tuple #[u, .int .i64 0] ∧ OB w.heap.size w' u (endB s n) else v = .tuple #[.slice none 0 0, .int .i64 2]) ∧ Mods No w w' := by
  have hcase : (endOk s n = true ∧ 1 ≤ s ∧ s ≤ 1073741824 ∧ 1 ≤ n ∧ n ≤ 20) ∨ (endOk s n = false ∧ s < 1) ∨ (endOk s n = false ∧ 1 ≤ s ∧ 1073741824 < s) ∨ (endOk s n = false ∧ 1 ≤ s ∧ s ≤ 1073741824 ∧ n < 1) ∨ (endOk s n = false ∧ 1 ≤ s ∧ s ≤ 1073741824 ∧ 1 ≤ n ∧ 20 < n) := by
    unfold endOk
    simp only [decide_eq_true_eq, decide_eq_false_iff_not]
    omega
  rcases hcase with ⟨e, h⟩ | ⟨e, h⟩ | ⟨e, h⟩ | ⟨e, h⟩ | ⟨e, h⟩
  · obtain ⟨B, hB⟩ : ∃ B, B = w.heap.size := ⟨_, rfl⟩
    rw [e]
    refine Ret.enter Try.func22 rfl Try.ntmps22 rfl ?_
    simp only [argEnv, Nat.reduceAdd]
    refine E_seqR ?_
    refine EL_val (R_assign rfl) rfl rfl rfl ?_
    refine EL_val (R_assign rfl) rfl rfl rfl ?_
    refine EL_nil ?_
    refine E_seq ?_
    refine E_seqR ?_
    refine EL_val (R_move rfl) rfl rfl rfl ?_
    first | refine EL_val (R_lss_t rfl rfl (by omega)) rfl rfl rfl ?_ | refine EL_val (R_lss_f rfl rfl (by omega)) rfl rfl rfl ?_
    refine EL_val (R_move rfl) rfl rfl rfl ?_
    first | refine EL_val (R_move rfl) rfl rfl rfl ?_ | refine EL_not rfl rfl rfl ?_
    first | refine EL_val (R_gtr_t rfl rfl (by omega)) rfl rfl rfl ?_ | refine EL_val (R_gtr_f rfl rfl (by omega)) rfl rfl rfl ?_ | refine EL_not rfl rfl rfl ?_
    first | refine EL_val (R_pick_t rfl rfl) rfl rfl rfl ?_ | refine EL_val (R_pick_f rfl rfl) rfl rfl rfl ?_
    refine EL_val (R_move rfl) rfl rfl rfl ?_
    first | refine EL_val (R_move rfl) rfl rfl rfl ?_ | refine EL_not rfl rfl rfl ?_
    first | refine EL_val (R_lss_t rfl rfl (by omega)) rfl rfl rfl ?_ | refine EL_val (R_lss_f rfl rfl (by omega)) rfl rfl rfl ?_ | refine EL_not rfl rfl rfl ?_
    first | refine EL_val (R_pick_t rfl rfl) rfl rfl rfl ?_ | refine EL_val (R_pick_f rfl rfl) rfl rfl rfl ?_
    refine EL_val (R_move rfl) rfl rfl rfl ?_
    first | refine EL_val (R_move rfl) rfl rfl rfl ?_ | refine EL_not rfl rfl rfl ?_
    first | refine EL_val (R_gtr_t rfl rfl (by omega)) rfl rfl rfl ?_ | refine EL_val (R_gtr_f rfl rfl (by omega)) rfl rfl rfl ?_ | refine EL_not rfl rfl rfl ?_
    first | refine EL_val (R_pick_t rfl rfl) rfl rfl rfl ?_ | refine EL_val (R_pick_f rfl rfl) rfl rfl rfl ?_
    refine EL_nil ?_
    refine E_cond_f rfl ?_
    refine E_skip ?_
    refine thenQ_n ?_
    refine E_seqR ?_
    refine EL_step rfl ?_
    refine EO_call K.bd36 rfl rfl (newpage_ok (by decide)) ?_
    rintro _ w1 ⟨p, rfl, hP, hm1⟩
    (have hP := hP.mono (B := B) (by omega))
    refine EL_val (R_move rfl) rfl rfl rfl ?_
    refine EL_step rfl ?_
    refine EO_buildSlice Try.underlying54 K.zr3 K.sz3 rfl rfl rfl (fill_whole rfl (by rw [size_madeCells])) rfl ?_
    intro w2 hn2
    refine EL_step rfl ?_
    refine EO_call K.bd37 rfl rfl (pageset_ok (a := 4) (size := 4) (ks := [s]) (hP.no hn2.mods) (isNew hn2) (offNew hn2) (by omega) (by omega) (by simp) (by simp) (by omega)) ?_
    rintro _ w3 ⟨rfl, hP3, hm3⟩
    refine EL_val (R_move rfl) rfl rfl rfl ?_
    refine EL_step rfl ?_
    refine EO_buildSlice Try.underlying54 K.zr3 K.sz3 rfl rfl rfl (fill_whole rfl (by rw [size_madeCells])) rfl ?_
    intro w4 hn4
    refine EL_step rfl ?_
    refine EO_call K.bd37 rfl rfl (pageset_ok (a := 8) (size := 1) (ks := [n]) (hP3.no hn4.mods) (isNew hn4) (offNew hn4) (by omega) (by omega) (by simp) (by simp) (by omega)) ?_
    rintro _ w5 ⟨rfl, hP5, hm5⟩
    refine EL_step rfl ?_
    refine EO_call K.bd38 rfl rfl (pageseal_ok hP5) ?_
    rintro u w6 ⟨ho, hm6⟩
    refine EL_val (R_assign rfl) rfl rfl rfl ?_
    refine EL_val (R_assign rfl) rfl rfl rfl ?_
    refine EL_nil ?_
    refine E_ret ?_
    refine ret2 (.inr rfl) rfl rfl rfl ?_
    have hW : TM U8 B w w6 := ((((TM.of_no (hm1.trans hn2.mods)).trans hm3).trans (TM.of_no hn4.mods)).trans hm5).trans (TM.of_no hm6)
    have hs : B ≤ w5.heap.size := by
      have h5 : TM U8 B w w5 := (((TM.of_no (hm1.trans hn2.mods)).trans hm3).trans (TM.of_no hn4.mods)).trans hm5
      have := h5.size
      omega
    exact ⟨⟨u, rfl, ho.mono (by omega)⟩, TM.no_of (Mods.refl _ _) hW (by omega)⟩
  · rw [e]
    refine Ret.enter Try.func22 rfl Try.ntmps22 rfl ?_
    simp only [argEnv, Nat.reduceAdd]
    refine E_seqR ?_
    refine EL_val (R_assign rfl) rfl rfl rfl ?_
    refine EL_val (R_assign rfl) rfl rfl rfl ?_
    refine EL_nil ?_
    refine E_seq ?_
    refine E_seqR ?_
    refine EL_val (R_move rfl) rfl rfl rfl ?_
    first | refine EL_val (R_lss_t rfl rfl (by omega)) rfl rfl rfl ?_ | refine EL_val (R_lss_f rfl rfl (by omega)) rfl rfl rfl ?_
    refine EL_val (R_move rfl) rfl rfl rfl ?_
    first | refine EL_val (R_move rfl) rfl rfl rfl ?_ | refine EL_not rfl rfl rfl ?_
    first | refine EL_val (R_gtr_t rfl rfl (by omega)) rfl rfl rfl ?_ | refine EL_val (R_gtr_f rfl rfl (by omega)) rfl rfl rfl ?_ | refine EL_not rfl rfl rfl ?_
    first | refine EL_val (R_pick_t rfl rfl) rfl rfl rfl ?_ | refine EL_val (R_pick_f rfl rfl) rfl rfl rfl ?_
    refine EL_val (R_move rfl) rfl rfl rfl ?_
    first | refine EL_val (R_move rfl) rfl rfl rfl ?_ | refine EL_not rfl rfl rfl ?_
    first | refine EL_val (R_lss_t rfl rfl (by omega)) rfl rfl rfl ?_ | refine EL_val (R_lss_f rfl rfl (by omega)) rfl rfl rfl ?_ | refine EL_not rfl rfl rfl ?_
    first | refine EL_val (R_pick_t rfl rfl) rfl rfl rfl ?_ | refine EL_val (R_pick_f rfl rfl) rfl rfl rfl ?_
    refine EL_val (R_move rfl) rfl rfl rfl ?_
    first | refine EL_val (R_move rfl) rfl rfl rfl ?_ | refine EL_not rfl rfl rfl ?_
    first | refine EL_val (R_gtr_t rfl rfl (by omega)) rfl rfl rfl ?_ | refine EL_val (R_gtr_f rfl rfl (by omega)) rfl rfl rfl ?_ | refine EL_not rfl rfl rfl ?_
    first | refine EL_val (R_pick_t rfl rfl) rfl rfl rfl ?_ | refine EL_val (R_pick_f rfl rfl) rfl rfl rfl ?_
    refine EL_nil ?_
    refine E_cond_t rfl ?_
    refine E_seqR ?_
    refine EL_val (R_assign rfl) rfl rfl rfl ?_
    refine EL_val (R_assign rfl) rfl rfl rfl ?_
    refine EL_nil ?_
    refine E_ret ?_
    refine thenQ_r ?_
    refine ret2 (.inr rfl) rfl rfl rfl ?_
    exact ⟨rfl, Mods.refl _ _⟩
  · rw [e]
    refine Ret.enter Try.func22 rfl Try.ntmps22 rfl ?_
    simp only [argEnv, Nat.reduceAdd]
    refine E_seqR ?_
    refine EL_val (R_assign rfl) rfl rfl rfl ?_
    refine EL_val (R_assign rfl) rfl rfl rfl ?_
    refine EL_nil ?_
    refine E_seq ?_
    refine E_seqR ?_
    refine EL_val (R_move rfl) rfl rfl rfl ?_
    first | refine EL_val (R_lss_t rfl rfl (by omega)) rfl rfl rfl ?_ | refine EL_val (R_lss_f rfl rfl (by omega)) rfl rfl rfl ?_
    refine EL_val (R_move rfl) rfl rfl rfl ?_
    first | refine EL_val (R_move rfl) rfl rfl rfl ?_ | refine EL_not rfl rfl rfl ?_
    first | refine EL_val (R_gtr_t rfl rfl (by omega)) rfl rfl rfl ?_ | refine EL_val (R_gtr_f rfl rfl (by omega)) rfl rfl rfl ?_ | refine EL_not rfl rfl rfl ?_
    first | refine EL_val (R_pick_t rfl rfl) rfl rfl rfl ?_ | refine EL_val (R_pick_f rfl rfl) rfl rfl rfl ?_
    refine EL_val (R_move rfl) rfl rfl rfl ?_
    first | refine EL_val (R_move rfl) rfl rfl rfl ?_ | refine EL_not rfl rfl rfl ?_
    first | refine EL_val (R_lss_t rfl rfl (by omega)) rfl rfl rfl ?_ | refine EL_val (R_lss_f rfl rfl (by omega)) rfl rfl rfl ?_ | refine EL_not rfl rfl rfl ?_
    first | refine EL_val (R_pick_t rfl rfl) rfl rfl rfl ?_ | refine EL_val (R_pick_f rfl rfl) rfl rfl rfl ?_
    refine EL_val (R_move rfl) rfl rfl rfl ?_
    first | refine EL_val (R_move rfl) rfl rfl rfl ?_ | refine EL_not rfl rfl rfl ?_
    first | refine EL_val (R_gtr_t rfl rfl (by omega)) rfl rfl rfl ?_ | refine EL_val (R_gtr_f rfl rfl (by omega)) rfl rfl rfl ?_ | refine EL_not rfl rfl rfl ?_
    first | refine EL_val (R_pick_t rfl rfl) rfl rfl rfl ?_ | refine EL_val (R_pick_f rfl rfl) rfl rfl rfl ?_
    refine EL_nil ?_
    refine E_cond_t rfl ?_
    refine E_seqR ?_
    refine EL_val (R_assign rfl) rfl rfl rfl ?_
    refine EL_val (R_assign rfl) rfl rfl rfl ?_
    refine EL_nil ?_
    refine E_ret ?_
    refine thenQ_r ?_
    refine ret2 (.inr rfl) rfl rfl rfl ?_
    exact ⟨rfl, Mods.refl _ _⟩
  · rw [e]
    refine Ret.enter Try.func22 rfl Try.ntmps22 rfl ?_
    simp only [argEnv, Nat.reduceAdd]
    refine E_seqR ?_
    refine EL_val (R_assign rfl) rfl rfl rfl ?_
    refine EL_val (R_assign rfl) rfl rfl rfl ?_
    refine EL_nil ?_
    refine E_seq ?_
    refine E_seqR ?_
    refine EL_val (R_move rfl) rfl rfl rfl ?_
    first | refine EL_val (R_lss_t rfl rfl (by omega)) rfl rfl rfl ?_ | refine EL_val (R_lss_f rfl rfl (by omega)) rfl rfl rfl ?_
    refine EL_val (R_move rfl) rfl rfl rfl ?_
    first | refine EL_val (R_move rfl) rfl rfl rfl ?_ | refine EL_not rfl rfl rfl ?_
    first | refine EL_val (R_gtr_t rfl rfl (by omega)) rfl rfl rfl ?_ | refine EL_val (R_gtr_f rfl rfl (by omega)) rfl rfl rfl ?_ | refine EL_not rfl rfl rfl ?_
    first | refine EL_val (R_pick_t rfl rfl) rfl rfl rfl ?_ | refine EL_val (R_pick_f rfl rfl) rfl rfl rfl ?_
    refine EL_val (R_move rfl) rfl rfl rfl ?_
    first | refine EL_val (R_move rfl) rfl rfl rfl ?_ | refine EL_not rfl rfl rfl ?_
    first | refine EL_val (R_lss_t rfl rfl (by omega)) rfl rfl rfl ?_ | refine EL_val (R_lss_f rfl rfl (by omega)) rfl rfl rfl ?_ | refine EL_not rfl rfl rfl ?_
    first | refine EL_val (R_pick_t rfl rfl) rfl rfl rfl ?_ | refine EL_val (R_pick_f rfl rfl) rfl rfl rfl ?_
    refine EL_val (R_move rfl) rfl rfl rfl ?_
    first | refine EL_val (R_move rfl) rfl rfl rfl ?_ | refine EL_not rfl rfl rfl ?_
    first | refine EL_val (R_gtr_t rfl rfl (by omega)) rfl rfl rfl ?_ | refine EL_val (R_gtr_f rfl rfl (by omega)) rfl rfl rfl ?_ | refine EL_not rfl rfl rfl ?_
    first | refine EL_val (R_pick_t rfl rfl) rfl rfl rfl ?_ | refine EL_val (R_pick_f rfl rfl) rfl rfl rfl ?_
    refine EL_nil ?_
    refine E_cond_t rfl ?_
    refine E_seqR ?_
    refine EL_val (R_assign rfl) rfl rfl rfl ?_
    refine EL_val (R_assign rfl) rfl rfl rfl ?_
    refine EL_nil ?_
    refine E_ret ?_
    refine thenQ_r ?_
    refine ret2 (.inr rfl) rfl rfl rfl ?_
    exact ⟨rfl, Mods.refl _ _⟩
  · rw [e]
    refine Ret.enter Try.func22 rfl Try.ntmps22 rfl ?_
    simp only [argEnv, Nat.reduceAdd]
    refine E_seqR ?_
    refine EL_val (R_assign rfl) rfl rfl rfl ?_
    refine EL_val (R_assign rfl) rfl rfl rfl ?_
    refine EL_nil ?_
    refine E_seq ?_
    refine E_seqR ?_
    refine EL_val (R_move rfl) rfl rfl rfl ?_
    first | refine EL_val (R_lss_t rfl rfl (by omega)) rfl rfl rfl ?_ | refine EL_val (R_lss_f rfl rfl (by omega)) rfl rfl rfl ?_
    refine EL_val (R_move rfl) rfl rfl rfl ?_
    first | refine EL_val (R_move rfl) rfl rfl rfl ?_ | refine EL_not rfl rfl rfl ?_
    first | refine EL_val (R_gtr_t rfl rfl (by omega)) rfl rfl rfl ?_ | refine EL_val (R_gtr_f rfl rfl (by omega)) rfl rfl rfl ?_ | refine EL_not rfl rfl rfl ?_
    first | refine EL_val (R_pick_t rfl rfl) rfl rfl rfl ?_ | refine EL_val (R_pick_f rfl rfl) rfl rfl rfl ?_
    refine EL_val (R_move rfl) rfl rfl rfl ?_
    first | refine EL_val (R_move rfl) rfl rfl rfl ?_ | refine EL_not rfl rfl rfl ?_
    first | refine EL_val (R_lss_t rfl rfl (by omega)) rfl rfl rfl ?_ | refine EL_val (R_lss_f rfl rfl (by omega)) rfl rfl rfl ?_ | refine EL_not rfl rfl rfl ?_
    first | refine EL_val (R_pick_t rfl rfl) rfl rfl rfl ?_ | refine EL_val (R_pick_f rfl rfl) rfl rfl rfl ?_
    refine EL_val (R_move rfl) rfl rfl rfl ?_
    first | refine EL_val (R_move rfl) rfl rfl rfl ?_ | refine EL_not rfl rfl rfl ?_
    first | refine EL_val (R_gtr_t rfl rfl (by omega)) rfl rfl rfl ?_ | refine EL_val (R_gtr_f rfl rfl (by omega)) rfl rfl rfl ?_ | refine EL_not rfl rfl rfl ?_
    first | refine EL_val (R_pick_t rfl rfl) rfl rfl rfl ?_ | refine EL_val (R_pick_f rfl rfl) rfl rfl rfl ?_
    refine EL_nil ?_
    refine E_cond_t rfl ?_
    refine E_seqR ?_
    refine EL_val (R_assign rfl) rfl rfl rfl ?_
    refine EL_val (R_assign rfl) rfl rfl rfl ?_
    refine EL_nil ?_
    refine E_ret ?_
    refine thenQ_r ?_
    refine ret2 (.inr rfl) rfl rfl rfl ?_
    exact ⟨rfl, Mods.refl _ _⟩
end Go.Proofs.Ytobhogdndfbniaa
