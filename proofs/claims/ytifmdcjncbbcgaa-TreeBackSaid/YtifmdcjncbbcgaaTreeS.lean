/- drydocklaw11.TreeZeros walked. -/
import Derived.Test.YtifmdcjncbbcgaaTreeQ
set_option linter.unusedVariables false
set_option linter.unusedSimpArgs false
set_option maxRecDepth 100000
namespace Go.Proofs.Ytifmdcjncbbcgaa
open Go.EW Go.RowKit

def planN (ks fs : List Int) : Array Value := if planE ks fs = 0 then nodeC ks (planG ks fs) (planB ks fs) else nodeZ
def planW (ks fs : List Int) : List (Int × List UInt8) := if planE ks fs = 0 then planL ks fs else []
theorem planN_form (ks fs : List Int) : ∃ k f l z a b c d s u ch, planN ks fs = nodeG k f l z a b c d s u ch := by
  unfold planN
  split
  · exact ⟨0, 1, 0, 0, _, _, _, _, _, _, 0, rfl⟩
  · exact ⟨0, 0, 0, 0, 0, 0, 0, 0, 0, 0, 0, rfl⟩
theorem planW_len (ks fs : List Int) : (planW ks fs).length ≤ 5 := by
  unfold planW
  split
  · rename_i he
    rw [(planned_of he).length]; exact need_le ks
  · simp
theorem plan_any {w : World} {A A' : Option Addr} {ks fs : List Int} {c c' : Nat} (hk : IS w A ks) (hkA : ∀ g i, A = some ⟨g, i, none⟩ → g < w.heap.size) (hc : ks.length ≤ c) (hl : ks.length ≤ 9223372036854775807) (hA' : ∀ a, A' = some a → a.spot = none) (hf : IS w A' fs) (hfA : ∀ g i, A' = some ⟨g, i, none⟩ → g < w.heap.size) (hc' : fs.length ≤ c') (hl' : fs.length ≤ 9223372036854775807) :
    Ret Try.prog 11 [.slice A ks.length c, .slice A' fs.length c'] w fun v w' => (∃ Aw cw, v = .tuple #[.agg (planN ks fs), .slice Aw (planW ks fs).length cw, .int .i64 (planE ks fs)] ∧ RW w' w'.heap.size Aw (planW ks fs)) ∧ Mods No w w' := by
  by_cases he : planE ks fs = 0
  · refine (plan_ok hk hkA hc hl hA' hf hfA hc' hl' he).mono ?_
    rintro v w' ⟨⟨vw, xs, rfl, how, hwl⟩, hm⟩
    obtain ⟨Aw, cw, rfl, _, _⟩ := own_sl how
    have e1 : planN ks fs = nodeC ks (planG ks fs) (planB ks fs) := by rw [planN, if_pos he]
    have e2 : planW ks fs = planL ks fs := by rw [planW, if_pos he]
    rw [e1, e2, he]
    exact ⟨⟨Aw, cw, rfl, hwl.rw how⟩, hm⟩
  · refine (plan_err hk hc hl hA' hf hc' hl' he).mono ?_
    rintro v w' ⟨rfl, hm⟩
    have e1 : planN ks fs = nodeZ := by rw [planN, if_neg he]
    have e2 : planW ks fs = [] := by rw [planW, if_neg he]
    rw [e1, e2]
    exact ⟨⟨none, 0, rfl, fun h => absurd h (by simp)⟩, hm⟩
theorem alike_planN {a b fs : List Int} (h : Alike a b) (ha : a.length ≤ 96) (hb : b.length ≤ 96) : planN a fs = planN b fs := by
  unfold planN
  rw [alike_planE h fs ha hb, alike_node h, alike_planG h, alike_planB h]
theorem alike_planW {a b fs : List Int} (h : Alike a b) (ha : a.length ≤ 96) (hb : b.length ≤ 96) : planW a fs = planW b fs := by
  unfold planW
  rw [alike_planE h fs ha hb, alike_planL h]
theorem ival_zeros (z : Nat) : List.replicate z (Value.int .i64 0) = ival (List.replicate z 0) := by simp [ival]
theorem one_set (q : Nat) : (ival (List.replicate (q + 1) 0)).set q (.int .i64 100) = ival (oneAt q) := by
  unfold oneAt
  rw [List.replicate_succ', ival_app, ival_app, List.set_append_right _ _ (by simp [ival]), show q - (ival (List.replicate q 0)).length = 0 from by simp [ival]]
  rfl
theorem RW.wide {w : World} {B B' : Nat} {A : Option Addr} {L : List (Int × List UInt8)} (h : RW w B A L) (hB : B ≤ B') : RW w B' A L := fun h0 => by
  obtain ⟨g, o, hA, hg, hc⟩ := h h0
  refine ⟨g, o, hA, by omega, fun k hk => ?_⟩
  obtain ⟨Ay, cy, h1, h2, h3, h4⟩ := hc k hk
  exact ⟨Ay, cy, h1, h2, h3, fun g' i' hA' h0' => by have := h4 g' i' hA' h0'; omega⟩
set_option maxHeartbeats 1000000 in
theorem zeros_walk {w : World} {A A' : Option Addr} {ks fs : List Int} {c c' : Nat} {x y : Int} (h : Arg w A ks c) (h' : Arg w A' fs c') (hbulk : ks.length * 8 ≤ 140737488351232) (hx : 0 ≤ x ∧ x ≤ 255) (hy : 0 ≤ y ∧ y ≤ 255) :
    Ret Try.prog 6 [.slice A ks.length c, .slice A' fs.length c', .int .u8 x, .int .u8 y] w fun v w' => v = .bool true ∧ Mods No w w' := by
  obtain ⟨z, hz⟩ : ∃ z : Nat, z = (x % 97).toNat := ⟨_, rfl⟩
  obtain ⟨q, hq⟩ : ∃ q : Nat, q = (y % 96).toNat := ⟨_, rfl⟩
  have hz97 : z < 97 := by omega
  have hq96 : q < 96 := by omega
  obtain ⟨l0, hl0⟩ : ∃ l0, l0 = ks ++ List.replicate z 0 := ⟨_, rfl⟩
  have hl0l : l0.length = ks.length + z := by rw [hl0]; simp
  obtain ⟨lg, hlg⟩ : ∃ lg, lg = l0.take 96 := ⟨_, rfl⟩
  have hlgl : lg.length = min 96 l0.length := by rw [hlg]; simp
  refine Ret.enter Try.func6 rfl Try.ntmps6 rfl ?_
  simp only [argEnv, Nat.reduceAdd]
  refine E_seqR ?_
  refine EL_val (R_assign rfl) rfl rfl rfl ?_
  refine EL_nil ?_
  refine E_seqR ?_
  refine EL_step rfl ?_
  refine EO_buildSlice0 Try.underlying22 K.sz3 rfl ?_
  intro w1 hn1
  refine EL_val (R_move rfl) rfl rfl rfl ?_
  refine EL_step rfl ?_
  refine EO_append rfl rfl Try.underlying22 K.sz3 K.zr3 K.by3 rfl (by decide) (hn1.own0 (m := 0) rfl (Nat.le_refl _) (by simp only [maxLen]; omega)) (h.is.no hn1.mods) ival_one (by simp only [maxLen]; omega) (by omega) (by have := hn1.size; omega) rfl ?_
  intro v2 w2 ho2 hm2 hat2
  refine EL_val (R_move rfl) rfl rfl rfl ?_
  refine EL_val (R_convInt x (wrap_i64_in (by omega) (by omega)) rfl Try.underlying5 Try.underlying3) rfl rfl rfl ?_
  refine EL_val (R_remE (x % 97) (by omega) (by omega) rfl rfl rfl) rfl rfl rfl ?_
  refine EL_step rfl ?_
  refine EO_appendZeros ho2 (show x % 97 = ((z : Nat) : Int) by omega) (by omega) (by have := hm2.size; have := hn1.size; omega) rfl rfl Try.underlying22 Try.underlying3 K.sz3 K.zr3 K.by3 rfl ?_
  intro v3 w3 ho3 hm3
  refine EL_val (R_assign rfl) rfl rfl rfl ?_
  refine EL_nil ?_
  refine E_seq ?_
  have hno2 := own_newer (w0 := w) (hn1.own0 (m := 0) (size := 1) rfl (Nat.le_refl _) (by simp only [maxLen]; omega)) hn1.mods hm2
  have hno3 := own_newer ho2 hno2 hm3
  have hol : OI w.heap.size w3 v3 l0 := by
    unfold OI
    rw [hl0l, hl0, ival_app]
    rw [ival_zeros] at ho3
    simpa using ho3
  obtain ⟨A3, c3, rfl, hc3, his3⟩ := hol.sl
  have hlt3 := OI.lt hol
  have hA3 : ∀ a, A3 = some a → a.spot = none := by
    obtain ⟨A'', c'', hv, _, hs⟩ := own_sl hol
    injection hv with e1
    subst e1
    exact hs
  clear ho2 hm2 hm3 ho3 hn1 hat2 hno2
  refine E_seqR ?_
  refine EL_val (R_move rfl) rfl rfl rfl ?_
  refine EL_val (R_lenSlice rfl Try.underlying22) rfl rfl rfl ?_
  refine EL_val (R_gtr rfl rfl) rfl rfl rfl ?_
  refine EL_nil ?_
  refine E_cut (fun e0 w' => e0 = [(0, .slice A ks.length c), (1, .slice A' fs.length c'), (3, .int .u8 y), (9, .slice A3 lg.length c3)] ∧ w' = w3) ?_ ?_
  · skip
    refine E_cond rfl (fun hb => ?_) (fun hb => ?_)
    · skip
      have hb' := of_decide_eq_true hb
      have e : lg.length = 96 := by omega
      refine E_region ?_
      refine EL_val (R_move rfl) rfl rfl rfl ?_
      refine EL_val (R_sliceH (96) (by omega) (by omega) rfl rfl Try.underlying22 K.sz3 (by first | (rintro _ ⟨⟩ <;> rfl) | assumption)) rfl rfl rfl ?_
      refine EL_val (R_assign rfl) rfl rfl rfl ?_
      refine EL_nil ?_
      refine thenQ_n ?_
      exact ⟨rfl, [(0, .slice A ks.length c), (1, .slice A' fs.length c'), (3, .int .u8 y), (9, .slice A3 lg.length c3)], ⟨rfl, rfl, rfl, by rw [e]; rfl, trivial⟩, rfl, rfl⟩
    · refine E_skip ?_
      refine thenQ_n ?_
      have hb' := of_decide_eq_false hb
      have e : lg = l0 := by rw [hlg, List.take_of_length_le (by omega)]
      exact ⟨rfl, [(0, .slice A ks.length c), (1, .slice A' fs.length c'), (3, .int .u8 y), (9, .slice A3 lg.length c3)], ⟨rfl, rfl, rfl, by rw [e]; rfl, trivial⟩, rfl, rfl⟩
  rintro e0 w4 ⟨rfl, rfl⟩
  have hislg : IS w4 A3 lg := by rw [hlg]; exact his3.take 96
  by_cases h96 : ks.length ≤ 96
  · have halike : Alike lg ks := by
      have : lg = ks ++ List.replicate (min (96 - ks.length) z) 0 := by
        rw [hlg, hl0, List.take_append, List.take_of_length_le h96, List.take_replicate]
      rw [this]
      exact alike_zeros ks _
    have hl96 : lg.length ≤ 96 := by omega
    have hsp' := h'.spot
    have hp1 := fun {w' : World} (hm : Mods No w w') => plan_any (c := c) (c' := c') (h.is.no hm) (fun g i hg => by have := h.lt g i hg; have := hm.size; omega) h.le h.len hsp' (h'.is.no hm) (fun g i hg => by have := h'.lt g i hg; have := hm.size; omega) h'.le h'.len
    have hp2 := fun {w' : World} (hm : Mods No w w') (hm4 : Mods No w4 w') => plan_any (c := c3) (c' := c') (hislg.no hm4) (fun g i hg => by have := hlt3 g i hg; have := hm4.size; omega) (by omega) (by omega) hsp' (h'.is.no hm) (fun g i hg => by have := h'.lt g i hg; have := hm.size; omega) h'.le h'.len
    rw [alike_planN halike hl96 h96, alike_planW halike hl96 h96, alike_planE halike fs hl96 h96] at hp2
    obtain ⟨k, f, l, zz, a, b, cc, d, s, u, ch, hN⟩ := planN_form ks fs
    rw [hN] at hp1 hp2
    have hWl := planW_len ks fs
    obtain ⟨L, hL⟩ : ∃ L, L = planW ks fs := ⟨_, rfl⟩
    obtain ⟨E, hE⟩ : ∃ E, E = planE ks fs := ⟨_, rfl⟩
    rw [← hL] at hWl
    simp only [← hL, ← hE] at hp1 hp2
    have hone := one_facts q hq96
    have hol1 : (oneAt q).length = q + 1 := by simp [oneAt]
    refine E_seq ?_
    refine E_seqR ?_
    refine EL_val (R_move rfl) rfl rfl rfl ?_
    refine EL_val (R_lenSlice rfl Try.underlying22) rfl rfl rfl ?_
    first | refine EL_val (R_gtr_t rfl rfl (by omega)) rfl rfl rfl ?_ | refine EL_val (R_gtr_f rfl rfl (by omega)) rfl rfl rfl ?_
    refine EL_nil ?_
    refine E_cond_f rfl ?_
    refine E_skip ?_
    refine thenQ_n ?_
    refine E_seqR ?_
    refine EL_val (R_move rfl) rfl rfl rfl ?_
    refine EL_val (R_move rfl) rfl rfl rfl ?_
    refine EL_step rfl ?_
    refine EO_call K.bd11 rfl rfl (hp1 hno3) ?_
    rintro _ w5 ⟨⟨Aw, cw, rfl, hW5⟩, hm5⟩
    refine EL_val (R_move rfl) rfl rfl rfl ?_
    refine EL_val (R_extract rfl rfl) rfl rfl rfl ?_
    refine EL_val (R_extract rfl rfl) rfl rfl rfl ?_
    refine EL_val (R_extract rfl rfl) rfl rfl rfl ?_
    refine EL_step rfl ?_
    refine EO_alloc K.zr32 rfl ?_
    intro w6 hn6
    refine EL_step rfl ?_
    refine EO_storeWhole hn6.bk rfl rfl K.sz32 rfl rfl ?_
    intro w7 hu7
    (have hs5 := hm5.size; have hm47 : Mods No w4 w7 := (hm5.trans hn6.mods).trans' hu7.mods (fun k hk e => by omega); have hW7 : RW w7 w7.heap.size Aw L := ((hW5.no hn6.mods).mods hu7.mods (fun i hi e => by omega)).wide (by have := hu7.size; have := hn6.size; omega))
    refine EL_val (R_assign rfl) rfl rfl rfl ?_
    refine EL_val (R_assign rfl) rfl rfl rfl ?_
    refine EL_nil ?_
    refine E_seqR ?_
    refine EL_val (R_move rfl) rfl rfl rfl ?_
    refine EL_val (R_move rfl) rfl rfl rfl ?_
    refine EL_step rfl ?_
    refine EO_call K.bd11 rfl rfl (hp2 (hno3.trans hm47) hm47) ?_
    rintro _ w8 ⟨⟨Av, cv, rfl, hW8⟩, hm8⟩
    refine EL_val (R_move rfl) rfl rfl rfl ?_
    refine EL_val (R_extract rfl rfl) rfl rfl rfl ?_
    refine EL_val (R_extract rfl rfl) rfl rfl rfl ?_
    refine EL_val (R_extract rfl rfl) rfl rfl rfl ?_
    refine EL_step rfl ?_
    refine EO_alloc K.zr32 rfl ?_
    intro w9 hn9
    refine EL_step rfl ?_
    refine EO_storeWhole hn9.bk rfl rfl K.sz32 rfl rfl ?_
    intro w10 hu10
    refine EL_val (R_assign rfl) rfl rfl rfl ?_
    refine EL_val (R_assign rfl) rfl rfl rfl ?_
    refine EL_nil ?_
    have hs8 := hm8.size
    have hm4x : Mods No w4 w10 := ((hm47.trans hm8).trans hn9.mods).trans' hu10.mods fun k hk e => by have := hm47.size; omega
    have hWa : RW w10 w10.heap.size Aw L := (((hW7.no hm8).no hn9.mods).mods hu10.mods (fun i hi e => by omega)).wide (by have := hu10.size; have := hn9.size; omega)
    have hWb : RW w10 w10.heap.size Av L := ((hW8.no hn9.mods).mods hu10.mods (fun i hi e => by omega)).wide (by have := hu10.size; have := hn9.size; omega)
    have hbb := hn9.mods.bk' (hm8.bk' hu7.bk)
    have hb1 := hu10.mods.bk hbb (fun e => by have := hbb.lt; have := hu7.bk.lt; omega)
    have hb2 := hu10.bk
    clear hW5 hW7 hW8 hn6 hu7 hn9 hu10 hbb hm47 hm5 hm8
    refine E_seqR ?_
    refine EL_val (R_move rfl) rfl rfl rfl ?_
    refine EL_val (R_convInt y (wrap_i64_in (by omega) (by omega)) rfl Try.underlying5 Try.underlying3) rfl rfl rfl ?_
    refine EL_val (R_remE (y % 96) (by omega) (by omega) rfl rfl rfl) rfl rfl rfl ?_
    refine EL_val (R_addE (((q + 1 : Nat) : Int)) rfl rfl (by omega) (by omega) (by omega)) rfl rfl rfl ?_
    refine EL_step rfl ?_
    refine EO_makeSlice (q + 1) (q + 1) rfl rfl Try.underlying22 K.zr3 K.sz3 K.by3 (by first | rfl | omega) (by first | rfl | omega) (by omega) (by omega) (by omega) rfl ?_
    intro w11 hn11
    refine EL_val (R_assign rfl) rfl rfl rfl ?_
    refine EL_nil ?_
    refine E_seqR ?_
    refine EL_val (R_move rfl) rfl rfl rfl ?_
    refine EL_val (R_move rfl) rfl rfl rfl ?_
    refine EL_val (R_lenSlice rfl Try.underlying22) rfl rfl rfl ?_
    refine EL_val (R_subE ((q : Int)) rfl rfl (by omega) (by omega) (by omega)) rfl rfl rfl ?_
    refine EL_val (R_indexAddr rfl rfl Try.underlying22 K.sz3 (m := q) rfl (by omega)) rfl rfl rfl ?_
    refine EL_step rfl ?_
    refine EO_store1 rfl rfl K.sz3 rfl hn11.bk (by rw [size_madeCells]; omega) ?_
    intro w12 hu12
    refine EL_nil ?_
    have hu12' : Upd w11 w12 w10.heap.size ((madeCells (Value.int .i64 0).cells ((q + 1) * 1)).setIfInBounds q (.int .i64 100)) 3 := by
      have e : 0 + q * 1 = q := by omega
      rw [e] at hu12
      exact hu12
    have hon : OI w10.heap.size w12 (.slice (some ⟨w10.heap.size, 0, none⟩) (q + 1) (q + 1)) (oneAt q) := by
      have h1 := OI.made hn11 (Nat.le_refl _) (by omega)
      unfold OI at h1
      rw [List.length_replicate] at h1
      have h2 := own_set (j := q) h1 hn11.bk hu12' (by omega) (by omega)
      rw [one_set] at h2
      unfold OI
      rw [hol1]
      exact h2
    have hm10 : Mods No w10 w12 := hn11.mods.trans' hu12'.mods fun k hk e => by omega
    have hnd := need_ok (c := q + 1) (OI.is hon) (by omega) (by omega)
    rw [hone.1, hol1] at hnd
    simp only [if_true] at hnd
    have hb12 := hm10.bk' hb1
    have hb22 := hm10.bk' hb2
    have hWa2 := hWa.no hm10
    have hWb2 := hWb.no hm10
    clear hu12 hu12' hn11 hb1 hb2 hWa hWb
    refine E_seqR ?_
    refine EL_val (R_move rfl) rfl rfl rfl ?_
    refine EL_step rfl ?_
    refine EO_call K.bd7 rfl rfl (hnd) ?_
    rintro _ w13' ⟨rfl, hm13'⟩
    refine EL_val (R_move rfl) rfl rfl rfl ?_
    refine EL_val (R_extract rfl rfl) rfl rfl rfl ?_
    refine EL_val (R_extract rfl rfl) rfl rfl rfl ?_
    refine EL_val (R_assign rfl) rfl rfl rfl ?_
    refine EL_val (R_assign rfl) rfl rfl rfl ?_
    refine EL_nil ?_
    refine E_seqR ?_
    refine EL_val (R_assign rfl) rfl rfl rfl ?_
    refine EL_nil ?_
    refine E_seq ?_
    have hb13 := hm13'.bk' hb12
    have hb23 := hm13'.bk' hb22
    have hwr := fun {w' : World} (hm : Mods No w13' w') => writes_ok (c := cw) (c' := cv) ((hWa2.no hm13').no hm) ((hWb2.no hm13').no hm) (by omega)
    have hend : ∀ {w' : World}, Mods No w13' w' → Mods No w w' := fun hm => ((hno3.trans hm4x).trans (hm10.trans hm13')).trans hm
    by_cases h4 : q + 1 > 4

    · by_cases h34 : q + 1 > 34
      · have hn : needS (oneAt q) = 2 := by rw [hone.2, if_pos h34]
        refine E_seqR ?_
        refine EL_val (R_move rfl) rfl rfl rfl ?_
        refine EL_val (R_lenSlice rfl Try.underlying22) rfl rfl rfl ?_
        first | refine EL_val (R_gtr_t rfl rfl (by omega)) rfl rfl rfl ?_ | refine EL_val (R_gtr_f rfl rfl (by omega)) rfl rfl rfl ?_
        refine EL_nil ?_
        refine E_cond_t rfl ?_
        refine E_region ?_
        refine EL_val (R_assign rfl) rfl rfl rfl ?_
        refine EL_nil ?_
        refine thenQ_n ?_
        refine E_seq ?_
        refine E_seqR ?_
        refine EL_val (R_move rfl) rfl rfl rfl ?_
        refine EL_val (R_lenSlice rfl Try.underlying22) rfl rfl rfl ?_
        first | refine EL_val (R_gtr_t rfl rfl (by omega)) rfl rfl rfl ?_ | refine EL_val (R_gtr_f rfl rfl (by omega)) rfl rfl rfl ?_
        refine EL_nil ?_
        refine E_cond_t rfl ?_
        refine E_region ?_
        refine EL_val (R_assign rfl) rfl rfl rfl ?_
        refine EL_nil ?_
        refine thenQ_n ?_
        refine E_seqR ?_
        refine EL_step rfl ?_
        refine EO_call K.bd9 rfl rfl (awake_ok) ?_
        rintro _ w13 ⟨rfl, hm13⟩
        refine EL_val (R_move rfl) rfl rfl rfl ?_
        first | refine EL_val (R_move rfl) rfl rfl rfl ?_ | refine EL_not rfl rfl rfl ?_
        first | refine EL_val (R_move rfl) rfl rfl rfl ?_ | refine EL_not rfl rfl rfl ?_
        first | refine EL_val (R_eql_t rfl rfl (by omega)) rfl rfl rfl ?_ | refine EL_val (R_eql_f rfl rfl (by omega)) rfl rfl rfl ?_ | refine EL_not rfl rfl rfl ?_
        first | refine EL_val (R_pick_t rfl rfl) rfl rfl rfl ?_ | refine EL_val (R_pick_f rfl rfl) rfl rfl rfl ?_
        refine EL_val (R_move rfl) rfl rfl rfl ?_
        first | refine EL_val (R_loadAgg rfl K.ag32 (whole_cells (hm13.bk' hb13)) (K.sz32)) rfl rfl rfl ?_ | refine EL_not rfl rfl rfl ?_
        first | refine EL_val (R_loadAgg rfl K.ag32 (whole_cells (hm13.bk' hb23)) (K.sz32)) rfl rfl rfl ?_ | refine EL_not rfl rfl rfl ?_
        refine EL_step rfl ?_
        refine EO_call K.bd13 rfl rfl (same_ok) ?_
        rintro _ w14 ⟨rfl, hm14⟩
        first | refine EL_val (R_pick_t rfl rfl) rfl rfl rfl ?_ | refine EL_val (R_pick_f rfl rfl) rfl rfl rfl ?_
        refine EL_val (R_move rfl) rfl rfl rfl ?_
        first | refine EL_val (R_move rfl) rfl rfl rfl ?_ | refine EL_not rfl rfl rfl ?_
        first | refine EL_val (R_move rfl) rfl rfl rfl ?_ | refine EL_not rfl rfl rfl ?_
        refine EL_step rfl ?_
        refine EO_call K.bd14 rfl rfl (hwr (hm13.trans hm14)) ?_
        rintro _ w15 ⟨rfl, hm15⟩
        first | refine EL_val (R_pick_t rfl rfl) rfl rfl rfl ?_ | refine EL_val (R_pick_f rfl rfl) rfl rfl rfl ?_
        refine EL_val (R_move rfl) rfl rfl rfl ?_
        first | refine EL_val (R_move rfl) rfl rfl rfl ?_ | refine EL_not rfl rfl rfl ?_
        first | refine EL_val (R_eql_t rfl rfl (by omega)) rfl rfl rfl ?_ | refine EL_val (R_eql_f rfl rfl (by omega)) rfl rfl rfl ?_ | refine EL_not rfl rfl rfl ?_
        first | refine EL_val (R_pick_t rfl rfl) rfl rfl rfl ?_ | refine EL_val (R_pick_f rfl rfl) rfl rfl rfl ?_
        refine EL_val (R_move rfl) rfl rfl rfl ?_
        first | refine EL_val (R_move rfl) rfl rfl rfl ?_ | refine EL_not rfl rfl rfl ?_
        first | refine EL_val (R_move rfl) rfl rfl rfl ?_ | refine EL_not rfl rfl rfl ?_
        first | refine EL_val (R_eql_t rfl rfl (by omega)) rfl rfl rfl ?_ | refine EL_val (R_eql_f rfl rfl (by omega)) rfl rfl rfl ?_ | refine EL_not rfl rfl rfl ?_
        first | refine EL_val (R_pick_t rfl rfl) rfl rfl rfl ?_ | refine EL_val (R_pick_f rfl rfl) rfl rfl rfl ?_
        refine EL_val (R_assign rfl) rfl rfl rfl ?_
        refine EL_nil ?_
        refine E_ret ?_
        refine ret1 (.inr rfl) rfl rfl ?_
        exact ⟨rfl, hend ((hm13.trans hm14).trans hm15)⟩
      · have hn : needS (oneAt q) = 1 := by rw [hone.2, if_neg h34, if_pos h4]

        refine E_seqR ?_
        refine EL_val (R_move rfl) rfl rfl rfl ?_
        refine EL_val (R_lenSlice rfl Try.underlying22) rfl rfl rfl ?_
        first | refine EL_val (R_gtr_t rfl rfl (by omega)) rfl rfl rfl ?_ | refine EL_val (R_gtr_f rfl rfl (by omega)) rfl rfl rfl ?_
        refine EL_nil ?_
        refine E_cond_t rfl ?_
        refine E_region ?_
        refine EL_val (R_assign rfl) rfl rfl rfl ?_
        refine EL_nil ?_
        refine thenQ_n ?_
        refine E_seq ?_
        refine E_seqR ?_
        refine EL_val (R_move rfl) rfl rfl rfl ?_
        refine EL_val (R_lenSlice rfl Try.underlying22) rfl rfl rfl ?_
        first | refine EL_val (R_gtr_t rfl rfl (by omega)) rfl rfl rfl ?_ | refine EL_val (R_gtr_f rfl rfl (by omega)) rfl rfl rfl ?_
        refine EL_nil ?_
        refine E_cond_f rfl ?_
        refine E_skip ?_
        refine thenQ_n ?_
        refine E_seqR ?_
        refine EL_step rfl ?_
        refine EO_call K.bd9 rfl rfl (awake_ok) ?_
        rintro _ w13 ⟨rfl, hm13⟩
        refine EL_val (R_move rfl) rfl rfl rfl ?_
        first | refine EL_val (R_move rfl) rfl rfl rfl ?_ | refine EL_not rfl rfl rfl ?_
        first | refine EL_val (R_move rfl) rfl rfl rfl ?_ | refine EL_not rfl rfl rfl ?_
        first | refine EL_val (R_eql_t rfl rfl (by omega)) rfl rfl rfl ?_ | refine EL_val (R_eql_f rfl rfl (by omega)) rfl rfl rfl ?_ | refine EL_not rfl rfl rfl ?_
        first | refine EL_val (R_pick_t rfl rfl) rfl rfl rfl ?_ | refine EL_val (R_pick_f rfl rfl) rfl rfl rfl ?_
        refine EL_val (R_move rfl) rfl rfl rfl ?_
        first | refine EL_val (R_loadAgg rfl K.ag32 (whole_cells (hm13.bk' hb13)) (K.sz32)) rfl rfl rfl ?_ | refine EL_not rfl rfl rfl ?_
        first | refine EL_val (R_loadAgg rfl K.ag32 (whole_cells (hm13.bk' hb23)) (K.sz32)) rfl rfl rfl ?_ | refine EL_not rfl rfl rfl ?_
        refine EL_step rfl ?_
        refine EO_call K.bd13 rfl rfl (same_ok) ?_
        rintro _ w14 ⟨rfl, hm14⟩
        first | refine EL_val (R_pick_t rfl rfl) rfl rfl rfl ?_ | refine EL_val (R_pick_f rfl rfl) rfl rfl rfl ?_
        refine EL_val (R_move rfl) rfl rfl rfl ?_
        first | refine EL_val (R_move rfl) rfl rfl rfl ?_ | refine EL_not rfl rfl rfl ?_
        first | refine EL_val (R_move rfl) rfl rfl rfl ?_ | refine EL_not rfl rfl rfl ?_
        refine EL_step rfl ?_
        refine EO_call K.bd14 rfl rfl (hwr (hm13.trans hm14)) ?_
        rintro _ w15 ⟨rfl, hm15⟩
        first | refine EL_val (R_pick_t rfl rfl) rfl rfl rfl ?_ | refine EL_val (R_pick_f rfl rfl) rfl rfl rfl ?_
        refine EL_val (R_move rfl) rfl rfl rfl ?_
        first | refine EL_val (R_move rfl) rfl rfl rfl ?_ | refine EL_not rfl rfl rfl ?_
        first | refine EL_val (R_eql_t rfl rfl (by omega)) rfl rfl rfl ?_ | refine EL_val (R_eql_f rfl rfl (by omega)) rfl rfl rfl ?_ | refine EL_not rfl rfl rfl ?_
        first | refine EL_val (R_pick_t rfl rfl) rfl rfl rfl ?_ | refine EL_val (R_pick_f rfl rfl) rfl rfl rfl ?_
        refine EL_val (R_move rfl) rfl rfl rfl ?_
        first | refine EL_val (R_move rfl) rfl rfl rfl ?_ | refine EL_not rfl rfl rfl ?_
        first | refine EL_val (R_move rfl) rfl rfl rfl ?_ | refine EL_not rfl rfl rfl ?_
        first | refine EL_val (R_eql_t rfl rfl (by omega)) rfl rfl rfl ?_ | refine EL_val (R_eql_f rfl rfl (by omega)) rfl rfl rfl ?_ | refine EL_not rfl rfl rfl ?_
        first | refine EL_val (R_pick_t rfl rfl) rfl rfl rfl ?_ | refine EL_val (R_pick_f rfl rfl) rfl rfl rfl ?_
        refine EL_val (R_assign rfl) rfl rfl rfl ?_
        refine EL_nil ?_
        refine E_ret ?_
        refine ret1 (.inr rfl) rfl rfl ?_
        exact ⟨rfl, hend ((hm13.trans hm14).trans hm15)⟩
    · have hn : needS (oneAt q) = 0 := by rw [hone.2, if_neg (by omega), if_neg h4]

      refine E_seqR ?_
      refine EL_val (R_move rfl) rfl rfl rfl ?_
      refine EL_val (R_lenSlice rfl Try.underlying22) rfl rfl rfl ?_
      first | refine EL_val (R_gtr_t rfl rfl (by omega)) rfl rfl rfl ?_ | refine EL_val (R_gtr_f rfl rfl (by omega)) rfl rfl rfl ?_
      refine EL_nil ?_
      refine E_cond_f rfl ?_
      refine E_skip ?_
      refine thenQ_n ?_
      refine E_seq ?_
      refine E_seqR ?_
      refine EL_val (R_move rfl) rfl rfl rfl ?_
      refine EL_val (R_lenSlice rfl Try.underlying22) rfl rfl rfl ?_
      first | refine EL_val (R_gtr_t rfl rfl (by omega)) rfl rfl rfl ?_ | refine EL_val (R_gtr_f rfl rfl (by omega)) rfl rfl rfl ?_
      refine EL_nil ?_
      refine E_cond_f rfl ?_
      refine E_skip ?_
      refine thenQ_n ?_
      refine E_seqR ?_
      refine EL_step rfl ?_
      refine EO_call K.bd9 rfl rfl (awake_ok) ?_
      rintro _ w13 ⟨rfl, hm13⟩
      refine EL_val (R_move rfl) rfl rfl rfl ?_
      first | refine EL_val (R_move rfl) rfl rfl rfl ?_ | refine EL_not rfl rfl rfl ?_
      first | refine EL_val (R_move rfl) rfl rfl rfl ?_ | refine EL_not rfl rfl rfl ?_
      first | refine EL_val (R_eql_t rfl rfl (by omega)) rfl rfl rfl ?_ | refine EL_val (R_eql_f rfl rfl (by omega)) rfl rfl rfl ?_ | refine EL_not rfl rfl rfl ?_
      first | refine EL_val (R_pick_t rfl rfl) rfl rfl rfl ?_ | refine EL_val (R_pick_f rfl rfl) rfl rfl rfl ?_
      refine EL_val (R_move rfl) rfl rfl rfl ?_
      first | refine EL_val (R_loadAgg rfl K.ag32 (whole_cells (hm13.bk' hb13)) (K.sz32)) rfl rfl rfl ?_ | refine EL_not rfl rfl rfl ?_
      first | refine EL_val (R_loadAgg rfl K.ag32 (whole_cells (hm13.bk' hb23)) (K.sz32)) rfl rfl rfl ?_ | refine EL_not rfl rfl rfl ?_
      refine EL_step rfl ?_
      refine EO_call K.bd13 rfl rfl (same_ok) ?_
      rintro _ w14 ⟨rfl, hm14⟩
      first | refine EL_val (R_pick_t rfl rfl) rfl rfl rfl ?_ | refine EL_val (R_pick_f rfl rfl) rfl rfl rfl ?_
      refine EL_val (R_move rfl) rfl rfl rfl ?_
      first | refine EL_val (R_move rfl) rfl rfl rfl ?_ | refine EL_not rfl rfl rfl ?_
      first | refine EL_val (R_move rfl) rfl rfl rfl ?_ | refine EL_not rfl rfl rfl ?_
      refine EL_step rfl ?_
      refine EO_call K.bd14 rfl rfl (hwr (hm13.trans hm14)) ?_
      rintro _ w15 ⟨rfl, hm15⟩
      first | refine EL_val (R_pick_t rfl rfl) rfl rfl rfl ?_ | refine EL_val (R_pick_f rfl rfl) rfl rfl rfl ?_
      refine EL_val (R_move rfl) rfl rfl rfl ?_
      first | refine EL_val (R_move rfl) rfl rfl rfl ?_ | refine EL_not rfl rfl rfl ?_
      first | refine EL_val (R_eql_t rfl rfl (by omega)) rfl rfl rfl ?_ | refine EL_val (R_eql_f rfl rfl (by omega)) rfl rfl rfl ?_ | refine EL_not rfl rfl rfl ?_
      first | refine EL_val (R_pick_t rfl rfl) rfl rfl rfl ?_ | refine EL_val (R_pick_f rfl rfl) rfl rfl rfl ?_
      refine EL_val (R_move rfl) rfl rfl rfl ?_
      first | refine EL_val (R_move rfl) rfl rfl rfl ?_ | refine EL_not rfl rfl rfl ?_
      first | refine EL_val (R_move rfl) rfl rfl rfl ?_ | refine EL_not rfl rfl rfl ?_
      first | refine EL_val (R_eql_t rfl rfl (by omega)) rfl rfl rfl ?_ | refine EL_val (R_eql_f rfl rfl (by omega)) rfl rfl rfl ?_ | refine EL_not rfl rfl rfl ?_
      first | refine EL_val (R_pick_t rfl rfl) rfl rfl rfl ?_ | refine EL_val (R_pick_f rfl rfl) rfl rfl rfl ?_
      refine EL_val (R_assign rfl) rfl rfl rfl ?_
      refine EL_nil ?_
      refine E_ret ?_
      refine ret1 (.inr rfl) rfl rfl ?_
      exact ⟨rfl, hend ((hm13.trans hm14).trans hm15)⟩
  · refine E_seq ?_
    refine E_seqR ?_
    refine EL_val (R_move rfl) rfl rfl rfl ?_
    refine EL_val (R_lenSlice rfl Try.underlying22) rfl rfl rfl ?_
    first | refine EL_val (R_gtr_t rfl rfl (by omega)) rfl rfl rfl ?_ | refine EL_val (R_gtr_f rfl rfl (by omega)) rfl rfl rfl ?_
    refine EL_nil ?_
    refine E_cond_t rfl ?_
    refine E_seqR ?_
    refine EL_step rfl ?_
    refine EO_call K.bd9 rfl rfl (awake_ok) ?_
    rintro _ w5 ⟨rfl, hm5⟩
    refine EL_val (R_assign rfl) rfl rfl rfl ?_
    refine EL_nil ?_
    refine E_ret ?_
    refine thenQ_r ?_
    refine ret1 (.inr rfl) rfl rfl ?_
    exact ⟨rfl, hno3.trans hm5⟩
end Go.Proofs.Ytifmdcjncbbcgaa
