/- The document's plan (package drydockref11). -/
import Derived.Test.YtifmdcjncbbcgaaTreeH
set_option linter.unusedVariables false
set_option linter.unusedSimpArgs false
set_option maxRecDepth 100000
namespace Go.Proofs.Ytifmdcjncbbcgaa
open Go.EW Go.RowKit

/-- in the midst of the document's plan -/
structure RS (w : World) (B b4 b8 : Nat) (N : Array Value) (ov : Value) (L : List (Int × List UInt8)) (xs : List Value) : Prop where
  h4 : Bk w b4 nodeZ 32
  h8 : Bk w b8 N 32
  own : w.ownsRow B 59 2 ov L.length xs
  wl : WLo w B L xs
  ge : B ≤ b4 ∧ B ≤ b8 ∧ b4 ≠ b8
theorem RS.no {w w' : World} {B b4 b8 : Nat} {N : Array Value} {ov : Value} {L : List (Int × List UInt8)} {xs : List Value} (h : RS w B b4 b8 N ov L xs) (hm : Mods No w w') : RS w' B b4 b8 N ov L xs :=
  ⟨hm.bk' h.h4, hm.bk' h.h8, hm.own h.own fun _ _ h => h, h.wl.mods hm fun _ _ _ h => h, h.ge⟩
theorem RS.set {w w' : World} {B b4 b8 : Nat} {N N' : Array Value} {ov : Value} {L : List (Int × List UInt8)} {xs : List Value} (h : RS w B b4 b8 N ov L xs) (hu : Upd w w' b8 N' 32) : RS w' B b4 b8 N' ov L xs :=
  ⟨hu.mods.bk h.h4 h.ge.2.2, hu.bk, own_upd h.own hu h.h8 (by decide), h.wl.mods hu.mods fun k C hk e => by subst e; exact absurd (h.h8.inj hk).2 (by decide), h.ge⟩
theorem RS.app {w w' : World} {B b4 b8 : Nat} {N : Array Value} {ov ov' y : Value} {a : Int} {l : List UInt8} {L : List (Int × List UInt8)} {xs : List Value} (h : RS w B b4 b8 N ov L xs) (hm : Mods (fun i => some i = ov.ownBlock) w w') (ho : w'.ownsRow B 59 2 ov' (L.length + 1) (xs ++ [.int .i64 a, y])) (hy : OB B w y l) :
    RS w' B b4 b8 N ov' (L ++ [(a, l)]) (xs ++ [.int .i64 a, y]) := by
  have hne : ∀ {g : Nat} {C : Array Value} {t : TypeId}, Bk w g C t → t ≠ 59 → ¬ (some g = ov.ownBlock) := fun hb ht e => by
    obtain ⟨_, cur, hc⟩ := own_blk h.own e.symm
    exact ht (hb.inj hc).2
  exact ⟨hm.bk h.h4 (hne h.h4 (by decide)), hm.bk h.h8 (hne h.h8 (by decide)), by rw [List.length_append]; exact ho, (h.wl.snoc hy).mods hm fun g C hb => hne hb (by decide), h.ge⟩
theorem rplan_err {w : World} {A A' : Option Addr} {ks fs : List Int} {c c' : Nat} (hk : IS w A ks) (hc : ks.length ≤ c) (hl : ks.length ≤ 9223372036854775807) (hA' : ∀ a, A' = some a → a.spot = none) (hf : IS w A' fs) (hc' : fs.length ≤ c') (hl' : fs.length ≤ 9223372036854775807) (he : planE ks fs ≠ 0) :
    Ret Try.prog 12 [.slice A ks.length c, .slice A' fs.length c'] w fun v w' => v = .tuple #[.agg nodeZ, .slice none 0 0, .int .i64 (planE ks fs)] ∧ Mods No w w' := by
  have hpo := fun {w' : World} (h : Mods No w w') => rpointers_ok (c := c) (hk.no h) hl
  cases hp : ptrsB ks with
  | false =>
    have hE : planE ks fs = 1 := by rw [planE, hp]; rfl
    rw [hp] at hpo
    refine Ret.enter Try.func12 rfl Try.ntmps12 rfl ?_
    simp only [argEnv, Nat.reduceAdd]
    refine E_seqR ?_
    refine EL_step rfl ?_
    refine EO_alloc K.zr32 rfl ?_
    intro w2 hn2
    refine EL_val (R_assign rfl) rfl rfl rfl ?_
    refine EL_val (R_assign rfl) rfl rfl rfl ?_
    refine EL_nil ?_
    refine E_seq ?_
    refine E_seqR ?_
    refine EL_val (R_move rfl) rfl rfl rfl ?_
    refine EL_step rfl ?_
    refine EO_call K.bd8 rfl rfl (hpo hn2.mods) ?_
    rintro _ w3 ⟨rfl, hm3⟩
    refine EL_val (R_not rfl) rfl rfl rfl ?_
    refine EL_nil ?_
    refine E_cond_t rfl ?_
    refine E_seqR ?_
    refine EL_val (R_build K.zr32 K.pl32 rfl (cells := nodeZ) rfl) rfl rfl rfl ?_
    refine EL_step rfl ?_
    refine EO_storeWhole (hm3.bk' hn2.bk) rfl rfl K.sz32 rfl rfl ?_
    intro w4 hu4
    refine EL_val (R_assign rfl) rfl rfl rfl ?_
    refine EL_val (R_assign rfl) rfl rfl rfl ?_
    refine EL_nil ?_
    refine E_ret ?_
    refine thenQ_r ?_
    refine ret_ctt (.inr rfl) rfl rfl rfl rfl K.ag32 (by exact K.sz32) (whole_cells hu4.bk) ?_
    exact ⟨by rw [hE], (hn2.mods.trans hm3).trans' hu4.mods fun k hk e => by omega⟩
  | true =>
    have h96 : ks.length ≤ 96 := by unfold ptrsB at hp; simp at hp; exact hp.2
    have hgood : Good ks := by unfold ptrsB at hp; simp at hp; exact hp.1
    have hE : planE ks fs = freshE ks fs (needS ks) := by rw [planE, hp]; rfl
    rw [hE] at he ⊢
    rw [hp] at hpo
    have hn5 := need_le ks
    have hfr := fun {w' : World} (h : Mods No w w') => rfresh_ok (n := needS ks) (c' := c) hA' (hf.no h) hc' hl' (hk.no h) h96 hgood (by omega)
    refine Ret.enter Try.func12 rfl Try.ntmps12 rfl ?_
    simp only [argEnv, Nat.reduceAdd]
    refine E_seqR ?_
    refine EL_step rfl ?_
    refine EO_alloc K.zr32 rfl ?_
    intro w2 hn2
    refine EL_val (R_assign rfl) rfl rfl rfl ?_
    refine EL_val (R_assign rfl) rfl rfl rfl ?_
    refine EL_nil ?_
    refine E_seq ?_
    refine E_seqR ?_
    refine EL_val (R_move rfl) rfl rfl rfl ?_
    refine EL_step rfl ?_
    refine EO_call K.bd8 rfl rfl (hpo hn2.mods) ?_
    rintro _ w3 ⟨rfl, hm3⟩
    refine EL_val (R_not rfl) rfl rfl rfl ?_
    refine EL_nil ?_
    refine E_cond_f rfl ?_
    refine E_skip ?_
    refine thenQ_n ?_
    refine E_seqR ?_
    refine EL_val (R_move rfl) rfl rfl rfl ?_
    refine EL_val (R_move rfl) rfl rfl rfl ?_
    refine EL_step rfl ?_
    refine EO_call K.bd10 rfl rfl (rneed_ok (hk.no (hn2.mods.trans hm3)) h96) ?_
    rintro _ w4 ⟨rfl, hm4⟩
    refine EL_val (R_move rfl) rfl rfl rfl ?_
    refine EL_step rfl ?_
    refine EO_call K.bd27 rfl rfl (hfr ((hn2.mods.trans hm3).trans hm4)) ?_
    rintro _ w5 ⟨rfl, hm5⟩
    refine EL_val (R_assign rfl) rfl rfl rfl ?_
    refine EL_nil ?_
    refine E_seq ?_
    refine E_seqR ?_
    refine EL_val (R_move rfl) rfl rfl rfl ?_
    first | refine EL_val (R_neq_t rfl rfl (he)) rfl rfl rfl ?_ | refine EL_val (R_neq_f rfl rfl (he)) rfl rfl rfl ?_
    refine EL_nil ?_
    refine E_cond_t rfl ?_
    refine E_seqR ?_
    refine EL_val (R_build K.zr32 K.pl32 rfl (cells := nodeZ) rfl) rfl rfl rfl ?_
    refine EL_val (R_move rfl) rfl rfl rfl ?_
    refine EL_step rfl ?_
    refine EO_storeWhole (hm5.bk' (hm4.bk' (hm3.bk' hn2.bk))) rfl rfl K.sz32 rfl rfl ?_
    intro w6 hu6
    refine EL_val (R_assign rfl) rfl rfl rfl ?_
    refine EL_val (R_assign rfl) rfl rfl rfl ?_
    refine EL_nil ?_
    refine E_ret ?_
    refine thenQ_r ?_
    refine ret_ctt (.inr rfl) rfl rfl rfl rfl K.ag32 (by exact K.sz32) (whole_cells hu6.bk) ?_
    exact ⟨rfl, (((hn2.mods.trans hm3).trans hm4).trans hm5).trans' hu6.mods fun k hk e => by omega⟩
theorem OI.lt {base : Nat} {w : World} {A : Option Addr} {ks : List Int} {m c : Nat} (h : OI base w (.slice A m c) ks) : ∀ g i, A = some ⟨g, i, none⟩ → g < w.heap.size := fun g i hA => by
  rcases h.2 with ⟨hv, _⟩ | ⟨g', cap, cur, hv, _, hg, _⟩
  · injection hv with e _ _
    rw [e] at hA; cases hA
  · injection hv with e _ _
    rw [e] at hA
    injection hA with hA
    injection hA with hA _ _
    subst hA
    exact Bk.lt (C := cur) (t := 3) hg
theorem rpage_oi {w : World} {base : Nat} {A : Option Addr} {ks : List Int} {c n : Nat} (hn : ks.length = n) (h : OI base w (.slice A n c) ks) (h30 : ks.length ≤ 30) (hx : Small ks) :
    Ret Try.prog 29 [.slice A n c] w fun v w' => OB w.heap.size w' v (pageC ks) ∧ Mods No w w' := by
  subst hn
  exact rpage_ok h.is h.lt h30 hx
def nodeP (ks : List Int) : Nat → Array Value
  | 0 => nodeC [] 0 0
  | i + 1 => (nodeP ks i).setIfInBounds (4 + i) (.int .i64 (ks.getD (0 + i) 0))
theorem nodeP_size (ks : List Int) : ∀ i, (nodeP ks i).size = 12
  | 0 => rfl
  | i + 1 => by rw [nodeP, Array.size_setIfInBounds, nodeP_size ks i]
theorem rplan_ok {w : World} {A A' : Option Addr} {ks fs : List Int} {c c' : Nat} (hk : IS w A ks) (hc : ks.length ≤ c) (hl : ks.length ≤ 9223372036854775807) (hA' : ∀ a, A' = some a → a.spot = none) (hf : IS w A' fs) (hc' : fs.length ≤ c') (hl' : fs.length ≤ 9223372036854775807) (he : planE ks fs = 0) :
    Ret Try.prog 12 [.slice A ks.length c, .slice A' fs.length c'] w fun v w' => (∃ vw xs, v = .tuple #[.agg (nodeC ks (planG ks fs) (planB ks fs)), vw, .int .i64 0] ∧ w'.ownsRow w.heap.size 59 2 vw (planL ks fs).length xs ∧ WLo w' w.heap.size (planL ks fs) xs) ∧ Mods No w w' := by
  have hpo := fun {w' : World} (h : Mods No w w') => rpointers_ok (c := c) (hk.no h) hl
  have hp : ptrsB ks = true := by
    cases hp : ptrsB ks with
    | true => rfl
    | false => rw [planE, hp] at he; cases he
  have hgood : Good ks := by unfold ptrsB at hp; simp at hp; exact hp.1
  have h96 : ks.length ≤ 96 := by unfold ptrsB at hp; simp at hp; exact hp.2
  have hE : freshE ks fs (needS ks) = 0 := by rw [planE, hp] at he; exact he
  rw [hp] at hpo
  have hn2 := need_n2 ks
  have hc3 := cntS_le ks 3
  have hn5 := need_le ks
  have hfl : needS ks ≤ fs.length := by unfold freshE at hE; split at hE <;> omega
  have hft : FreshTo ks fs (needS ks) := by
    unfold freshE at hE
    rw [if_neg (by omega)] at hE
    split at hE
    · assumption
    · cases hE
  have hsm := good_small hgood
  have hfr := fun {w' : World} (h : Mods No w w') => rfresh_ok (n := needS ks) (c' := c) hA' (hf.no h) hc' hl' (hk.no h) h96 hgood (by omega)
  rw [hE] at hfr
  have hpt := fun {w' : World} (h : Mods No w w') (a n : Nat) (ha : a ≤ 1000) (hn2 : n ≤ 96) => rpart_ok (c := c) (a := a) (n := n) (hk.no h) (by omega) ha hn2
  have hat := fun {w' : World} (h : Mods No w w') (i : Nat) (hi : i ≤ 1000) => rat_ok (c := c) (i := i) (hk.no h) (by omega) (by omega)
  have h34 : (partS ks 34 62).any nzI = b1S ks := some34 h96 (by omega)
  have hpt34 := fun {w' : World} (h : Mods No w w') => hpt h 34 62 (by omega) (by omega)
  rw [h34] at hpt34
  have hpt4 := fun {w' : World} (h : Mods No w w') => hpt h 4 30 (by omega) (by omega)
  rw [show (partS ks 4 30).any nzI = s1S ks from rfl] at hpt4
  have e5 := partS_length ks 4 30
  obtain ⟨B, hB⟩ : ∃ B, B = w.heap.size := ⟨_, rfl⟩
  rw [← hB]
  have hn12 : n1S ks = (if s1S ks = true then 1 else 0) := rfl
  have hn1le : n1S ks ≤ 1 := by rw [hn12]; split <;> omega
  have hs1n : s1S ks = true → 1 ≤ needS ks := fun h => by rw [hn2, n2S, n1S, if_pos h]; omega
  have hb1n : b1S ks = true → n1S ks + 2 ≤ needS ks ∧ 0 < cntS ks 3 ∧ n2S ks = n1S ks + 1 := fun h => by
    have h' : 0 < cntS ks 3 := by simpa [b1S] using h
    have h2 : n2S ks = n1S ks + 1 := by rw [n2S, if_pos h]
    omega
  obtain ⟨L1, hL1⟩ : ∃ L1, L1 = oneL fs 0 (s1S ks) (pageC (partS ks 4 30)) := ⟨_, rfl⟩
  have hL1l : L1.length = n1S ks := by rw [hL1, oneL_length]; rfl
  obtain ⟨G, hG⟩ : ∃ G, G = planG ks fs := ⟨_, rfl⟩
  obtain ⟨Bv, hBv⟩ : ∃ Bv, Bv = planB ks fs := ⟨_, rfl⟩
  have hsl : 0 < fs.length → ∃ g o, A' = some ⟨g, o, none⟩ ∧ ∀ i (h : i < fs.length), w.cell? ⟨g, o + i, none⟩ = some (.int .i64 (fs.getD i 0)) := fun h0 => by
    obtain ⟨g, o, hAA, _⟩ := hf.cell h0
    refine ⟨g, o, hAA, fun i h => ?_⟩
    obtain ⟨g', o', hA2, hc2⟩ := hf.cell h
    rw [hAA] at hA2
    injection hA2 with hA2
    injection hA2 with e1 e2 _
    subst e1; subst e2
    rw [List.getD_eq_getElem?_getD, List.getElem?_eq_getElem h]
    exact hc2
  refine Ret.enter Try.func12 rfl Try.ntmps12 rfl ?_
  simp only [argEnv, Nat.reduceAdd]
  refine E_seqR ?_
  refine EL_step rfl ?_
  refine EO_alloc K.zr32 rfl ?_
  intro w2 hn2'
  refine EL_val (R_assign rfl) rfl rfl rfl ?_
  refine EL_val (R_assign rfl) rfl rfl rfl ?_
  refine EL_nil ?_
  refine E_seq ?_
  refine E_seqR ?_
  refine EL_val (R_move rfl) rfl rfl rfl ?_
  refine EL_step rfl ?_
  refine EO_call K.bd8 rfl rfl (hpo hn2'.mods) ?_
  rintro _ w3 ⟨rfl, hm3⟩
  refine EL_val (R_not rfl) rfl rfl rfl ?_
  refine EL_nil ?_
  refine E_cond_f rfl ?_
  refine E_skip ?_
  refine thenQ_n ?_
  refine E_seqR ?_
  refine EL_val (R_move rfl) rfl rfl rfl ?_
  refine EL_val (R_move rfl) rfl rfl rfl ?_
  refine EL_step rfl ?_
  refine EO_call K.bd10 rfl rfl (rneed_ok (hk.no (hn2'.mods.trans hm3)) h96) ?_
  rintro _ w4 ⟨rfl, hm4⟩
  refine EL_val (R_move rfl) rfl rfl rfl ?_
  refine EL_step rfl ?_
  refine EO_call K.bd27 rfl rfl (hfr ((hn2'.mods.trans hm3).trans hm4)) ?_
  rintro _ w5 ⟨rfl, hm5⟩
  refine EL_val (R_assign rfl) rfl rfl rfl ?_
  refine EL_nil ?_
  refine E_seq ?_
  refine E_seqR ?_
  refine EL_val (R_move rfl) rfl rfl rfl ?_
  first | refine EL_val (R_neq_t rfl rfl (by omega)) rfl rfl rfl ?_ | refine EL_val (R_neq_f rfl rfl (by omega)) rfl rfl rfl ?_
  refine EL_nil ?_
  refine E_cond_f rfl ?_
  refine E_skip ?_
  refine thenQ_n ?_
  obtain ⟨b4, hb4⟩ : ∃ b4, b4 = w.heap.size := ⟨_, rfl⟩
  have k4 : Bk w5 b4 nodeZ 32 := hb4 ▸ hm5.bk' (hm4.bk' (hm3.bk' hn2'.bk))
  have hm05 : Mods No w w5 := ((hn2'.mods.trans hm3).trans hm4).trans hm5
  have hb4lt := k4.lt
  rw [← hb4]
  clear hn2' hm3 hm4 hm5
  obtain ⟨b8, hb8⟩ : ∃ b8, b8 = w5.heap.size := ⟨_, rfl⟩
  refine E_seqR ?_
  refine EL_val (R_build K.zr32 K.pl32 rfl (cells := nodeC [] 0 0) rfl) rfl rfl rfl ?_
  refine EL_step rfl ?_
  refine EO_alloc K.zr32 rfl ?_
  intro w6 hn6
  refine EL_step rfl ?_
  refine EO_storeWhole hn6.bk rfl rfl K.sz32 rfl rfl ?_
  intro w7 hu7
  refine EL_nil ?_
  refine E_seq ?_
  refine E_seqR ?_
  refine EL_val (R_assign rfl) rfl rfl rfl ?_
  refine EL_nil ?_
  rw [← hb8] at hu7 ⊢
  have k4' := hu7.mods.bk (hn6.mods.bk' k4) (fun e => by omega)
  have k8 := hu7.bk
  have hm07 : Mods No w w7 := (hm05.trans hn6.mods).trans' hu7.mods fun k hk e => by have := hm05.size; omega
  clear hn6 hu7 k4
  have hs5 := hm05.size
  refine E_cut (fun e0 w' => e0 = [(0, .slice A ks.length c), (1, .slice A' fs.length c'), (4, ptr b4), (8, ptr b8)] ∧ Bk w' b4 nodeZ 32 ∧ Bk w' b8 (nodeC ks 0 0) 32 ∧ Mods No w w') ?_ ?_
  · refine E_block ?_
    refine E_loop (fun m' e' w' => ∃ i, i ≤ 4 ∧ m' = 4 - i ∧ e' = [(0, .slice A ks.length c), (1, .slice A' fs.length c'), (4, ptr b4), (8, ptr b8), (9, .int .i64 ((i : Nat) : Int))] ∧ Bk w' b4 nodeZ 32 ∧ Bk w' b8 (nodeP ks i) 32 ∧ Mods No w w') 4 [(0, .slice A ks.length c), (1, .slice A' fs.length c'), (4, ptr b4), (8, ptr b8), (9, .int .i64 ((0 : Nat) : Int))] ⟨rfl, rfl, rfl, rfl, rfl, trivial⟩ ⟨0, by omega, rfl, rfl, k4', k8, hm07⟩ ?_
    clear k4' k8 hm07
    rintro m' e w1 ⟨i, hi, rfl, rfl, k4, k8, hm1⟩
    by_cases hlt : i < 4
    · have hps := nodeP_size ks i
      refine E_seq ?_
      refine E_seqR ?_
      refine EL_val (R_move rfl) rfl rfl rfl ?_
      first | refine EL_val (R_lss_t rfl rfl (by omega)) rfl rfl rfl ?_ | refine EL_val (R_lss_f rfl rfl (by omega)) rfl rfl rfl ?_
      refine EL_nil ?_
      refine E_cond_t rfl ?_
      refine E_skip ?_
      refine thenQ_n ?_
      refine E_seq ?_
      refine E_block ?_
      refine E_region ?_
      refine EL_val (R_move rfl) rfl rfl rfl ?_
      refine EL_val (R_move rfl) rfl rfl rfl ?_
      refine EL_val (R_move rfl) rfl rfl rfl ?_
      refine EL_step rfl ?_
      refine EO_call K.bd28 rfl rfl (hat hm1 i (by omega)) ?_
      rintro _ _ ⟨rfl, rfl⟩
      refine EL_val (R_fieldAddr rfl K.fT32_4) rfl rfl rfl ?_
      refine EL_val (R_indexAddrArr rfl rfl Try.underlying29 K.sz3 (m := i) rfl hlt) rfl rfl rfl ?_
      refine EL_step rfl ?_
      refine EO_store1 rfl rfl K.sz3 rfl k8 (by omega) ?_
      intro w2 hu2
      refine EL_nil ?_
      refine inB_n ?_
      refine thenQ_n ?_
      refine E_region ?_
      refine EL_val (R_move rfl) rfl rfl rfl ?_
      first | refine EL_val (R_inc rfl (by omega)) rfl rfl rfl ?_ | refine EL_val (R_add_in rfl rfl (by omega) (by omega)) rfl rfl rfl ?_
      refine EL_val (R_assign rfl) rfl rfl rfl ?_
      refine EL_nil ?_
      refine thenQ_n ?_
      have hu2' : Upd w1 w2 b8 (nodeP ks (i + 1)) 32 := by rw [nodeP, Nat.zero_add, show 4 + i = 0 + 4 + i * 1 from by omega]; exact hu2
      exact ⟨rfl, 4 - (i + 1), [(0, .slice A ks.length c), (1, .slice A' fs.length c'), (4, ptr b4), (8, ptr b8), (9, .int .i64 ((i + 1 : Nat) : Int))], by omega, ⟨rfl, rfl, rfl, rfl, rfl, trivial⟩, i + 1, by omega, rfl, rfl, hu2'.mods.bk k4 (fun e => by omega), hu2'.bk, hm1.trans' hu2'.mods fun k hk e => by omega⟩
    · have hi4 : i = 4 := by omega
      subst hi4
      refine E_seq ?_
      refine E_seqR ?_
      refine EL_val (R_move rfl) rfl rfl rfl ?_
      first | refine EL_val (R_lss_t rfl rfl (by omega)) rfl rfl rfl ?_ | refine EL_val (R_lss_f rfl rfl (by omega)) rfl rfl rfl ?_
      refine EL_nil ?_
      refine E_cond_f rfl ?_
      refine E_exit ?_
      refine thenQ_e ?_
      refine thenQ_e ?_
      refine inB_eq rfl ?_
      refine thenQ_n ?_
      exact ⟨rfl, [(0, .slice A ks.length c), (1, .slice A' fs.length c'), (4, ptr b4), (8, ptr b8)], ⟨rfl, rfl, rfl, rfl, trivial⟩, rfl, k4, k8, hm1⟩
  clear k4' k8 hm07
  rintro e0 w1 ⟨rfl, k4, k8, hm1⟩
  have hs1 := hm1.size

  refine E_seqR ?_
  refine EL_step rfl ?_
  refine EO_buildSlice0 Try.underlying33 K.sz59 rfl ?_
  intro w2 hn2'
  refine EL_val (R_assign rfl) rfl rfl rfl ?_
  refine EL_nil ?_
  refine E_seqR ?_
  refine EL_val (R_assign rfl) rfl rfl rfl ?_
  refine EL_nil ?_
  have R2 : RS w2 B b4 b8 (nodeC ks 0 0) (.slice (some ⟨w1.heap.size, 0, none⟩) 0 0) [] [] := ⟨hn2'.mods.bk' k4, hn2'.mods.bk' k8, hn2'.own0 (m := 0) rfl (by omega) (by simp only [maxLen]; omega), trivial, by omega, by omega, by omega⟩
  have hm02 : Mods No w w2 := hm1.trans hn2'.mods
  obtain ⟨ov, hov⟩ : ∃ ov : Value, ov = .slice (some ⟨w1.heap.size, 0, none⟩) 0 0 := ⟨_, rfl⟩
  rw [← hov] at R2 ⊢
  clear hn2' hov k4 k8 hm1 hs1
  have hs2 := hm02.size
  have hN1 : ∀ w' : World, ∀ w'' : World, Upd w' w'' b8 ((nodeC ks 0 0).setIfInBounds (0 + 8) (.int .i64 G)) 32 → Upd w' w'' b8 (nodeC ks G 0) 32 := fun _ _ h => h
  have hN2 : ∀ w' : World, ∀ w'' : World, Upd w' w'' b8 ((nodeC ks G 0).setIfInBounds (0 + 9) (.int .i64 Bv)) 32 → Upd w' w'' b8 (nodeC ks G Bv) 32 := fun _ _ h => h
  refine E_seqR ?_
  refine EL_val (R_move rfl) rfl rfl rfl ?_
  refine EL_step rfl ?_
  refine EO_call K.bd21 rfl rfl (hpt4 hm02) ?_
  rintro _ w3 ⟨⟨u, rfl, hu⟩, hm3⟩
  refine EL_val (R_move rfl) rfl rfl rfl ?_
  refine EL_val (R_extract rfl rfl) rfl rfl rfl ?_
  refine EL_val (R_extract rfl rfl) rfl rfl rfl ?_
  refine EL_val (R_assign rfl) rfl rfl rfl ?_
  refine EL_val (R_assign rfl) rfl rfl rfl ?_
  refine EL_nil ?_
  refine E_seq ?_
  refine E_seqR ?_
  refine EL_val (R_move rfl) rfl rfl rfl ?_
  refine EL_nil ?_
  have R3 := R2.no hm3
  have hm03 := hm02.trans hm3
  have hs3 := hm03.size
  clear R2
  refine E_cut (fun e0 w' => ∃ ov xs, e0 = [(0, .slice A ks.length c), (1, .slice (A') fs.length c'), (4, ptr b4), (8, ptr b8), (10, ov), (11, .int .i64 ((n1S ks : Nat) : Int))] ∧ RS w' B b4 b8 (nodeC ks G 0) ov L1 xs ∧ Mods No w w') ?_ ?_
  · skip
    refine E_cond rfl (fun hb => ?_) (fun hb => ?_)
    · skip
      have hs1 := hs1n hb
      obtain ⟨g, o, rfl, hcf⟩ := hsl (by omega)
      have hc0 := hcf 0 (by omega)
      have hGv : G = fs.getD 0 0 := by rw [hG, planG, if_pos hb]
      have hLv : L1 = [] ++ [(G, pageC (partS ks 4 30))] := by rw [hL1, hGv, oneL, if_pos hb]; rfl
      have hn1 : n1S ks = 1 := by rw [hn12, if_pos hb]
      rw [← hGv] at hc0
      obtain ⟨A5, c5, rfl, _, his⟩ := hu.sl
      rw [hn1]
      have hwr : ∀ (y : Value), ∀ (j : Nat) (u : Value), [Value.int .i64 G, y][j]? = some u → (#[.int .i64 G, y] : Array Value)[0 + j]? = some u := fun y j u h => by rw [Nat.zero_add]; simpa using h
      refine E_seqR ?_
      refine EL_val (R_move rfl) rfl rfl rfl ?_
      refine EL_val (R_indexAddr rfl rfl Try.underlying22 K.sz3 (m := 0) rfl (by omega)) rfl rfl rfl ?_
      refine EL_val (R_load rfl K.ag3 (hm03.cell hc0 id)) rfl rfl rfl ?_
      refine EL_val (R_fieldAddr rfl K.fT32_5) rfl rfl rfl ?_
      refine EL_step rfl ?_
      refine EO_store1 rfl rfl K.sz3 rfl R3.h8 (by show 0 + 8 < 12; omega) ?_
      intro w4 hu4
      (have hu4' := hN1 _ _ hu4; have R4 := R3.set hu4'; have hm04 : Mods No w w4 := hm03.trans' hu4'.mods (fun k hk e => by omega); have hs4 := hm04.size; have hu4o := own_upd hu hu4' R3.h8 (by decide))
      refine EL_nil ?_
      refine E_seqD (fun _ => [(7, fun W => W.cell? ⟨g, o + 0 * 1, none⟩ = some (.int .i64 G))]) 10 K.mix rfl ?_
      intro w5 hm5 hh5
      (have hm05 := hm04.trans hm5; have R5 := R4.no hm5)
      refine EA_pure 0 rfl (fun _ => R_move rfl) (by kernel_rfl) rfl rfl rfl ?_
      refine EA_pure 1 rfl (fun _ => R_move rfl) (by kernel_rfl) rfl rfl rfl ?_
      refine EA_pure 2 rfl (fun _ => R_indexAddr rfl rfl Try.underlying22 K.sz3 (m := 0) rfl (by omega)) (by kernel_rfl) rfl rfl rfl ?_
      refine EA_load 3 0 [6, 7, 8, 9] rfl rfl K.ag3 rfl (by kernel_rfl) (by kernel_rfl) rfl rfl ?_
      refine EA_pure 4 rfl (fun _ => R_move rfl) (by kernel_rfl) rfl rfl rfl ?_
      refine EA_one 5 rfl (by kernel_rfl) rfl ⟨fun _ => hm05.cell hc0 id, trivial⟩ ?_
      refine EO_call K.bd29 rfl rfl (rpage_oi rfl (OI.no hu4o hm5) (by omega) (part_small hsm 4 30)) ?_
      rintro v6 w6 ⟨ho6, hm6⟩
      (obtain ⟨A6, c6, rfl, _, _⟩ := own_sl ho6; have R6 := R5.no hm6; have hm06 := hm05.trans hm6; have hs6 := hm06.size)
      refine EA_pure 6 rfl (fun _ => R_build (cells := #[.int .i64 G, .slice A6 (pageC (partS ks 4 30)).length c6]) K.zr59 K.pl59 rfl rfl) (by kernel_rfl) rfl rfl rfl ?_
      refine EA_one 7 rfl (by kernel_rfl) rfl ⟨fun _ => hm06.cell hc0 id, trivial⟩ ?_
      refine EO_buildSlice Try.underlying33 K.zr59 K.sz59 rfl rfl rfl (fill_whole rfl (by rw [size_madeCells])) rfl ?_
      intro w7 hn7
      refine EA_one 8 rfl (by kernel_rfl) rfl ⟨kl rfl, trivial⟩ ?_
      refine EO_append rfl rfl Try.underlying33 K.sz59 K.zr59 K.by59 rfl (by decide) (hn7.mods.own R6.own fun _ _ h => h) (Src.bk hn7.bk 1 2 [.int .i64 G, .slice A6 (pageC (partS ks 4 30)).length c6] rfl (hwr _)) (by simp [Value.oneCell']) (by simp only [maxLen, List.length_nil]; omega) (by simp only [List.length_nil]; omega) (by have := hn7.size; omega) rfl ?_
      intro v8 w8 ho8 hm8 hat8
      refine EA_pure 9 rfl (fun _ => R_assign rfl) (by kernel_rfl) rfl rfl rfl ?_
      refine EA_done (by kernel_rfl) (Holds.done (by kernel_rfl)) ?_
      refine E_region ?_
      refine EL_val (R_move rfl) rfl rfl rfl ?_
      refine EL_val (R_addE (1) rfl rfl (by omega) (by omega) (by omega)) rfl rfl rfl ?_
      refine EL_val (R_assign rfl) rfl rfl rfl ?_
      refine EL_nil ?_
      refine thenQ_n ?_
      have R8 := (R6.no hn7.mods).app (l := pageC (partS ks 4 30)) hm8 ho8 (own_mono (hn7.mods.own ho6 fun _ _ h => h) (by have := hm5.size; omega))
      rw [hLv]
      exact ⟨rfl, [(0, .slice A ks.length c), (1, .slice (some ⟨g, o, none⟩) fs.length c'), (4, ptr b4), (8, ptr b8), (10, v8), (11, .int .i64 ((1 : Nat) : Int))], ⟨rfl, rfl, rfl, rfl, rfl, rfl, trivial⟩, v8, _, rfl, R8, own_newer (w0 := w) (hB ▸ (R6.no hn7.mods).own) (hm06.trans hn7.mods) hm8⟩
    · refine E_skip ?_
      refine thenQ_n ?_
      have hn1 : n1S ks = 0 := by rw [hn12, if_neg (by rw [show s1S ks = false from hb]; decide)]
      have hG0 : G = 0 := by rw [hG, planG, if_neg (by rw [show s1S ks = false from hb]; decide)]
      have hL0 : L1 = [] := by rw [hL1, oneL, if_neg (by rw [show s1S ks = false from hb]; decide)]
      rw [hn1, hG0, hL0]
      exact ⟨rfl, [(0, .slice A ks.length c), (1, .slice (A') fs.length c'), (4, ptr b4), (8, ptr b8), (10, ov), (11, .int .i64 ((0 : Nat) : Int))], ⟨rfl, rfl, rfl, rfl, rfl, rfl, trivial⟩, ov, [], rfl, R3, hm03⟩
  clear R3 hm02 hm03 hs2 hs3 hu
  rintro e0 w2 ⟨ov, xs, rfl, R2, hm02⟩
  have hs2 := hm02.size
  cases hb : b1S ks with
  | false =>
    rw [hb] at hpt34
    have hL : planL ks fs = L1 := by
      have h0 : cntS ks 3 = 0 := by simp [b1S] at hb; omega
      have h1 : undW ks fs (n2S ks) 3 = [] := List.eq_nil_of_length_eq_zero (by rw [undW_length, h0])
      unfold planL
      rw [← hL1, hb, h1]
      simp [oneL]
    have hB0 : planB ks fs = 0 := by rw [planB, hb]; rfl

    refine E_seqR ?_
    refine EL_val (R_move rfl) rfl rfl rfl ?_
    refine EL_step rfl ?_
    refine EO_call K.bd21 rfl rfl (hpt34 hm02) ?_
    rintro _ w3 ⟨⟨u, rfl, hu⟩, hm3⟩
    refine EL_val (R_move rfl) rfl rfl rfl ?_
    refine EL_val (R_extract rfl rfl) rfl rfl rfl ?_
    refine EL_val (R_extract rfl rfl) rfl rfl rfl ?_
    refine EL_val (R_assign rfl) rfl rfl rfl ?_
    refine EL_nil ?_
    refine E_seq ?_
    refine E_seqR ?_
    refine EL_val (R_move rfl) rfl rfl rfl ?_
    refine EL_val (R_not rfl) rfl rfl rfl ?_
    refine EL_nil ?_
    refine E_cond_t rfl ?_
    refine E_seqR ?_
    refine EL_val (R_loadAgg rfl K.ag32 (whole_cells (hm3.bk' R2.h8)) (K.sz32)) rfl rfl rfl ?_
    refine EL_val (R_move rfl) rfl rfl rfl ?_
    refine EL_step rfl ?_
    refine EO_storeWhole (hm3.bk' R2.h4) rfl rfl K.sz32 rfl rfl ?_
    intro w4 hu4
    refine EL_val (R_assign rfl) rfl rfl rfl ?_
    refine EL_val (R_assign rfl) rfl rfl rfl ?_
    refine EL_nil ?_
    refine E_ret ?_
    refine thenQ_r ?_
    refine ret_ctt (.inr rfl) rfl rfl rfl rfl K.ag32 (by exact K.sz32) (whole_cells hu4.bk) ?_
    have R3 := R2.no hm3
    rw [hL, hB0, ← hG]
    exact ⟨⟨ov, xs, rfl, own_upd R3.own hu4 R3.h4 (by decide), R3.wl.mods hu4.mods fun k C hk e => by subst e; exact absurd (R3.h4.inj hk).2 (by decide)⟩, (hm02.trans hm3).trans' hu4.mods fun k hk e => by omega⟩
  | true =>
    rw [hb] at hpt34
    obtain ⟨hbn, hcp, hn21⟩ := hb1n hb
    obtain ⟨g, o, rfl, hcf⟩ := hsl (by omega)
    have hcn := hcf (n1S ks) (by omega)
    have hBvv : Bv = fs.getD (n1S ks) 0 := by rw [hBv, planB, hb]; rfl
    rw [← hBvv] at hcn
    have hov : ∃ Ao co, ov = .slice Ao L1.length co := by obtain ⟨Ao, co, rfl, _, _⟩ := own_sl R2.own; exact ⟨Ao, co, rfl⟩
    obtain ⟨Ao, co, rfl⟩ := hov
    have hc00 : cntS ks 0 = 0 := rfl

    refine E_seqR ?_
    refine EL_val (R_move rfl) rfl rfl rfl ?_
    refine EL_step rfl ?_
    refine EO_call K.bd21 rfl rfl (hpt34 hm02) ?_
    rintro _ w3 ⟨⟨u, rfl, hu⟩, hm3⟩
    refine EL_val (R_move rfl) rfl rfl rfl ?_
    refine EL_val (R_extract rfl rfl) rfl rfl rfl ?_
    refine EL_val (R_extract rfl rfl) rfl rfl rfl ?_
    refine EL_val (R_assign rfl) rfl rfl rfl ?_
    refine EL_nil ?_
    refine E_seq ?_
    refine E_seqR ?_
    refine EL_val (R_move rfl) rfl rfl rfl ?_
    refine EL_val (R_not rfl) rfl rfl rfl ?_
    refine EL_nil ?_
    refine E_cond_f rfl ?_
    refine E_skip ?_
    refine thenQ_n ?_
    refine E_seqR ?_
    refine EL_val (R_move rfl) rfl rfl rfl ?_
    refine EL_val (R_move rfl) rfl rfl rfl ?_
    refine EL_val (R_indexAddr rfl rfl Try.underlying22 K.sz3 (m := n1S ks) rfl (by omega)) rfl rfl rfl ?_
    refine EL_val (R_load rfl K.ag3 ((by rw [Nat.mul_one]; exact (hm02.trans hm3).cell hcn id))) rfl rfl rfl ?_
    refine EL_val (R_fieldAddr rfl K.fT32_6) rfl rfl rfl ?_
    refine EL_step rfl ?_
    refine EO_store1 rfl rfl K.sz3 rfl (hm3.bk' R2.h8) (by show 0 + 9 < 12; omega) ?_
    intro w4 hu4
    (have R3 := R2.no hm3; have hu4' := hN2 _ _ hu4; have R4 := R3.set hu4'; have hm04 : Mods No w w4 := (hm02.trans hm3).trans' hu4'.mods (fun k hk e => by omega); have hs4 := hm04.size)
    refine EL_nil ?_
    refine E_seqR ?_
    refine EL_val (R_move rfl) rfl rfl rfl ?_
    refine EL_val (R_lenSlice rfl Try.underlying33) rfl rfl rfl ?_
    refine EL_val (R_assign rfl) rfl rfl rfl ?_
    refine EL_nil ?_
    refine E_seqR ?_
    refine EL_val (R_move rfl) rfl rfl rfl ?_
    refine EL_val (R_move rfl) rfl rfl rfl ?_
    refine EL_val (R_move rfl) rfl rfl rfl ?_
    refine EL_val (R_indexAddr rfl rfl Try.underlying22 K.sz3 (m := n1S ks) rfl (by omega)) rfl rfl rfl ?_
    refine EL_val (R_load rfl K.ag3 ((by rw [Nat.mul_one]; exact hm04.cell hcn id))) rfl rfl rfl ?_
    refine EL_val (R_build (cells := #[.int .i64 Bv, .slice none 0 0]) K.zr59 K.pl59 rfl rfl) rfl rfl rfl ?_
    refine EL_step rfl ?_
    refine EO_buildSlice Try.underlying33 K.zr59 K.sz59 rfl rfl rfl (fill_whole rfl (by rw [size_madeCells])) rfl ?_
    intro w5 hn5
    refine EL_step rfl ?_
    refine EO_append rfl rfl Try.underlying33 K.sz59 K.zr59 K.by59 rfl (by decide) (hn5.mods.own R4.own fun _ _ h => h) (Src.bk hn5.bk 1 2 [.int .i64 Bv, .slice none 0 0] rfl (fun j u h => by rw [Nat.zero_add]; show (#[.int .i64 Bv, .slice none 0 0] : Array Value)[j]? = some u; simpa using h)) (by simp [Value.oneCell']) (by simp only [maxLen]; omega) (by omega) (by have := hn5.size; omega) rfl ?_
    intro v6 w6 ho6 hm6 hat6
    refine EL_val (R_assign rfl) rfl rfl rfl ?_
    refine EL_nil ?_
    refine E_seqR ?_
    refine EL_val (R_move rfl) rfl rfl rfl ?_
    refine EL_val (R_addE (((n2S ks + cntS ks 0 : Nat) : Int)) rfl rfl (by omega) (by omega) (by omega)) rfl rfl rfl ?_
    refine EL_val (R_assign rfl) rfl rfl rfl ?_
    refine EL_nil ?_
    refine E_seqR ?_
    refine EL_step rfl ?_
    refine EO_buildSlice0 Try.underlying22 K.sz3 rfl ?_
    intro w7 hn7
    refine EL_val (R_assign rfl) rfl rfl rfl ?_
    refine EL_nil ?_
    refine E_seq ?_
    refine E_seqR ?_
    refine EL_val (R_assign rfl) rfl rfl rfl ?_
    refine EL_nil ?_
    have R5 := R4.no hn5.mods
    have R6 := R5.app (l := []) hm6 ho6 (World.ownsRow_nil _ _ _ _)
    have hm06 := own_newer (w0 := w) (hB ▸ R5.own) (hm04.trans hn5.mods) hm6
    have R7 := R6.no hn7.mods
    have hm07' : Mods No w w7 := hm06.trans hn7.mods
    have hou : OI B w7 (.slice (some ⟨w6.heap.size, 0, none⟩) 0 0) [] := hn7.own0 (m := 0) rfl (by have := hm06.size; omega) (by simp only [maxLen]; omega)
    obtain ⟨uv, huv⟩ : ∃ uv : Value, uv = .slice (some ⟨w6.heap.size, 0, none⟩) 0 0 := ⟨_, rfl⟩
    rw [← huv] at hou ⊢
    clear R2 R3 R4 R5 R6 hn5 hn7 ho6 hm6 hat6 hu4 hu4' hu hm3 hm04 hm06 huv hs4 hm02 hs2
    have hL2l : (L1 ++ [(Bv, ([] : List UInt8))]).length = n2S ks := by rw [List.length_append, hL1l, hn21]; rfl
    refine E_cut (fun e0 w' => ∃ ov uv xs, e0 = [(4, ptr b4), (8, ptr b8), (10, ov), (14, .int .i64 (L1.length : Int)), (15, uv)] ∧ RS w' B b4 b8 (nodeC ks G Bv) ov (L1 ++ [(Bv, [])] ++ undW ks fs (n2S ks) 3) xs ∧ OI B w' uv (undP ks fs (n2S ks) 3) ∧ Mods No w w') ?_ ?_
    · refine E_block ?_
      refine E_loop (fun m' e' w' => ∃ k ov uv xs, k ≤ 3 ∧ m' = 3 - k ∧ e' = [(0, .slice A ks.length c), (1, .slice (some ⟨g, o, none⟩) fs.length c'), (4, ptr b4), (8, ptr b8), (10, ov), (11, .int .i64 ((n2S ks + cntS ks (k) : Nat) : Int)), (14, .int .i64 (L1.length : Int)), (15, uv), (16, .int .i64 ((34 + 30 * (k) : Nat) : Int))] ∧ RS w' B b4 b8 (nodeC ks G Bv) ov (L1 ++ [(Bv, [])] ++ undW ks fs (n2S ks) k) xs ∧ OI B w' uv (undP ks fs (n2S ks) k) ∧ Mods No w w') 3 [(0, .slice A ks.length c), (1, .slice (some ⟨g, o, none⟩) fs.length c'), (4, ptr b4), (8, ptr b8), (10, v6), (11, .int .i64 ((n2S ks + cntS ks (0) : Nat) : Int)), (14, .int .i64 (L1.length : Int)), (15, uv), (16, .int .i64 ((34 + 30 * (0) : Nat) : Int))] ⟨rfl, rfl, rfl, rfl, rfl, rfl, rfl, rfl, rfl, trivial⟩ ⟨0, v6, uv, _, by omega, rfl, rfl, by simpa [undW] using R7, hou, hm07'⟩ ?_
      clear R7 hou hm07'
      rintro m' e w1 ⟨k, ov, uv, xs, hk3, rfl, rfl, R1, ho1, hm1⟩
      have hs1 := hm1.size
      by_cases hlt : k < 3
      · have hcl := cntS_le ks k
        have hcm := cntS_mono (ks := ks) (i := k + 1) (j := 3) (by omega)
        have hcs : cntS ks (k + 1) = cntS ks k + (if someS ks (34 + 30 * k) 30 then 1 else 0) := rfl
        have hul := undP_length ks fs (n2S ks) k
        have ek := partS_length ks (34 + 30 * k) 30
        have hpk := fun {w' : World} (h : Mods No w w') => hpt h (34 + 30 * k) 30 (by omega) (by omega)
        rw [show (partS ks (34 + 30 * k) 30).any nzI = someS ks (34 + 30 * k) 30 from rfl] at hpk
        have hqn : (L1 ++ [(Bv, ([] : List UInt8))] ++ undW ks fs (n2S ks) k).length = n2S ks + cntS ks k := by rw [List.length_append, undW_length, hL2l]
        cases hsb : someS ks (34 + 30 * k) 30 with
        | false =>
          rw [hsb] at hpk
          rw [if_neg (by rw [hsb]; decide)] at hcs
          have hW1 : undW ks fs (n2S ks) (k + 1) = undW ks fs (n2S ks) k := by rw [undW, if_neg (by rw [hsb]; decide), List.append_nil]
          have hP1 : undP ks fs (n2S ks) (k + 1) = undP ks fs (n2S ks) k ++ [0] := by rw [undP, if_neg (by rw [hsb]; decide)]
          refine E_seq ?_
          refine E_seqR ?_
          refine EL_val (R_move rfl) rfl rfl rfl ?_
          first | refine EL_val (R_lss_t rfl rfl (by omega)) rfl rfl rfl ?_ | refine EL_val (R_lss_f rfl rfl (by omega)) rfl rfl rfl ?_
          refine EL_nil ?_
          refine E_cond_t rfl ?_
          refine E_skip ?_
          refine thenQ_n ?_
          refine E_seq ?_
          refine E_block ?_
          refine E_seqR ?_
          refine EL_val (R_move rfl) rfl rfl rfl ?_
          refine EL_val (R_move rfl) rfl rfl rfl ?_
          refine EL_step rfl ?_
          refine EO_call K.bd21 rfl rfl (hpk hm1) ?_
          rintro _ w2 ⟨⟨u, rfl, hu⟩, hm2⟩
          refine EL_val (R_move rfl) rfl rfl rfl ?_
          refine EL_val (R_extract rfl rfl) rfl rfl rfl ?_
          refine EL_val (R_extract rfl rfl) rfl rfl rfl ?_
          refine EL_val (R_assign rfl) rfl rfl rfl ?_
          refine EL_val (R_assign rfl) rfl rfl rfl ?_
          refine EL_nil ?_
          refine E_seq ?_
          refine E_seqR ?_
          refine EL_val (R_move rfl) rfl rfl rfl ?_
          refine EL_val (R_not rfl) rfl rfl rfl ?_
          refine EL_nil ?_
          refine E_cond_t rfl ?_
          refine E_seqR ?_
          refine EL_val (R_move rfl) rfl rfl rfl ?_
          refine EL_step rfl ?_
          refine EO_buildSlice Try.underlying22 K.zr3 K.sz3 rfl rfl rfl (fill_whole rfl (by rw [size_madeCells])) rfl ?_
          intro w3 hn3
          refine EL_step rfl ?_
          refine EO_append rfl rfl Try.underlying22 K.sz3 K.zr3 K.by3 rfl (by decide) ((ho1.no hm2).no hn3.mods) (Src.bk hn3.bk 1 1 [.int .i64 0] rfl (fun j u hj => by rw [Nat.zero_add]; show (#[.int .i64 0] : Array Value)[j]? = some u; simpa using hj)) (by simp [Value.oneCell']) (by simp only [maxLen]; omega) (by omega) (by have := hn3.size; have := hm2.size; omega) rfl ?_
          intro v4 w4 ho4 hm4 hat4
          refine EL_val (R_assign rfl) rfl rfl rfl ?_
          refine EL_nil ?_
          refine E_exit ?_
          refine thenQ_e ?_
          refine inB_eq rfl ?_
          refine thenQ_n ?_
          refine E_region ?_
          refine EL_val (R_move rfl) rfl rfl rfl ?_
          refine EL_val (R_addE (((34 + 30 * (k + 1) : Nat) : Int)) rfl rfl (by omega) (by omega) (by omega)) rfl rfl rfl ?_
          refine EL_val (R_assign rfl) rfl rfl rfl ?_
          refine EL_nil ?_
          refine thenQ_n ?_
          have ho3 := (ho1.no hm2).no hn3.mods
          have R3 := (R1.no hm2).no hn3.mods
          have hne : ∀ {g : Nat} {C : Array Value} {t : TypeId}, Bk w3 g C t → t ≠ 3 → ¬ (some g = uv.ownBlock) := fun hb ht e => by
            obtain ⟨_, cur, hc⟩ := own_blk ho3 e.symm
            exact ht (hb.inj hc).2
          have hm03 := (hm1.trans hm2).trans hn3.mods
          refine ⟨rfl, 3 - (k + 1), [(0, .slice A ks.length c), (1, .slice (some ⟨g, o, none⟩) fs.length c'), (4, ptr b4), (8, ptr b8), (10, ov), (11, .int .i64 ((n2S ks + cntS ks (k + 1) : Nat) : Int)), (14, .int .i64 (L1.length : Int)), (15, v4), (16, .int .i64 ((34 + 30 * (k + 1) : Nat) : Int))], by omega, ⟨rfl, rfl, rfl, rfl, rfl, by rw [hcs]; rfl, rfl, rfl, rfl, trivial⟩, k + 1, ov, v4, xs, by omega, rfl, rfl, ?_, by rw [hP1]; exact OI.appd (ys := [0]) ho4, own_newer (w0 := w) (hB ▸ ho3) hm03 hm4⟩
          rw [hW1]
          exact ⟨hm4.bk R3.h4 (hne R3.h4 (by decide)), hm4.bk R3.h8 (hne R3.h8 (by decide)), hm4.own R3.own fun q hq e => by obtain ⟨_, cur, hc⟩ := own_blk R3.own hq; exact hne hc (by decide) e, R3.wl.mods hm4 fun q C hq => hne hq (by decide), R3.ge⟩
        | true =>
          rw [hsb] at hpk
          rw [if_pos hsb] at hcs
          obtain ⟨q, hq⟩ : ∃ q, q = fs.getD (n2S ks + cntS ks k) 0 := ⟨_, rfl⟩
          have hcq := hcf (n2S ks + cntS ks k) (by omega)
          rw [← hq] at hcq
          have hW1 : L1 ++ [(Bv, [])] ++ undW ks fs (n2S ks) (k + 1) = (L1 ++ [(Bv, [])] ++ undW ks fs (n2S ks) k) ++ [(q, pageC (partS ks (34 + 30 * k) 30))] := by rw [undW, if_pos hsb, List.append_assoc (L1 ++ [(Bv, [])]), hq]
          have hP1 : undP ks fs (n2S ks) (k + 1) = undP ks fs (n2S ks) k ++ [q] := by rw [undP, if_pos hsb, hq]
          have hov : ∃ Ao co, ov = .slice Ao (n2S ks + cntS ks k) co := by obtain ⟨Ao, co, rfl, _, _⟩ := own_sl R1.own; exact ⟨Ao, co, by rw [hqn]⟩
          refine E_seq ?_
          refine E_seqR ?_
          refine EL_val (R_move rfl) rfl rfl rfl ?_
          first | refine EL_val (R_lss_t rfl rfl (by omega)) rfl rfl rfl ?_ | refine EL_val (R_lss_f rfl rfl (by omega)) rfl rfl rfl ?_
          refine EL_nil ?_
          refine E_cond_t rfl ?_
          refine E_skip ?_
          refine thenQ_n ?_
          refine E_seq ?_
          refine E_block ?_
          refine E_seqR ?_
          refine EL_val (R_move rfl) rfl rfl rfl ?_
          refine EL_val (R_move rfl) rfl rfl rfl ?_
          refine EL_step rfl ?_
          refine EO_call K.bd21 rfl rfl (hpk hm1) ?_
          rintro _ w2 ⟨⟨u, rfl, hu⟩, hm2⟩
          (obtain ⟨A5, c5, rfl, _, _⟩ := hu.sl)
          refine EL_val (R_move rfl) rfl rfl rfl ?_
          refine EL_val (R_extract rfl rfl) rfl rfl rfl ?_
          refine EL_val (R_extract rfl rfl) rfl rfl rfl ?_
          refine EL_val (R_assign rfl) rfl rfl rfl ?_
          refine EL_val (R_assign rfl) rfl rfl rfl ?_
          refine EL_nil ?_
          refine E_seq ?_
          refine E_seqR ?_
          refine EL_val (R_move rfl) rfl rfl rfl ?_
          refine EL_val (R_not rfl) rfl rfl rfl ?_
          refine EL_nil ?_
          refine E_cond_f rfl ?_
          refine E_skip ?_
          refine thenQ_n ?_
          refine E_seqR ?_
          refine EL_val (R_move rfl) rfl rfl rfl ?_
          refine EL_val (R_move rfl) rfl rfl rfl ?_
          refine EL_val (R_move rfl) rfl rfl rfl ?_
          refine EL_val (R_indexAddr rfl rfl Try.underlying22 K.sz3 (m := n2S ks + cntS ks k) rfl (by omega)) rfl rfl rfl ?_
          refine EL_val (R_load rfl K.ag3 ((by rw [Nat.mul_one]; exact (hm1.trans hm2).cell hcq id))) rfl rfl rfl ?_
          refine EL_step rfl ?_
          refine EO_buildSlice Try.underlying22 K.zr3 K.sz3 rfl rfl rfl (fill_whole rfl (by rw [size_madeCells])) rfl ?_
          intro w3 hn3
          refine EL_step rfl ?_
          refine EO_append rfl rfl Try.underlying22 K.sz3 K.zr3 K.by3 rfl (by decide) ((ho1.no hm2).no hn3.mods) (Src.bk hn3.bk 1 1 [.int .i64 q] rfl (fun j u hj => by rw [Nat.zero_add]; show (#[.int .i64 q] : Array Value)[j]? = some u; simpa using hj)) (by simp [Value.oneCell']) (by simp only [maxLen]; omega) (by omega) (by have := hn3.size; have := hm2.size; omega) rfl ?_
          intro v4 w4 ho4 hm4 hat4
          (have ho3 := (ho1.no hm2).no hn3.mods; have hu3 := (hu.no hn3.mods); have R3 := (R1.no hm2).no hn3.mods; have hm03 := (hm1.trans hm2).trans hn3.mods; have hs3 := hm03.size;  have hne : ∀ {g : Nat} {C : Array Value} {t : TypeId}, Bk w3 g C t → t ≠ 3 → ¬ (some g = uv.ownBlock) := fun hb ht e => (by obtain ⟨_, cur, hc⟩ := own_blk ho3 e.symm; exact ht (hb.inj hc).2);  have R4 : RS w4 B b4 b8 (nodeC ks G Bv) ov (L1 ++ [(Bv, [])] ++ undW ks fs (n2S ks) k) xs := ⟨hm4.bk R3.h4 (hne R3.h4 (by decide)), hm4.bk R3.h8 (hne R3.h8 (by decide)), hm4.own R3.own (fun q hq e => by obtain ⟨_, cur, hc⟩ := own_blk R3.own hq; exact hne hc (by decide) e), R3.wl.mods hm4 (fun q C hq => hne hq (by decide)), R3.ge⟩;  have hm04 := own_newer (w0 := w) (hB ▸ ho3) hm03 hm4; have hs4 := hm04.size; have ho4' : OI B w4 v4 (undP ks fs (n2S ks) (k + 1)) := (by rw [hP1]; exact OI.appd (ys := [q]) ho4);  have hu4 : OI w1.heap.size w4 (.slice A5 (partS ks (34 + 30 * k) 30).length c5) (partS ks (34 + 30 * k) 30) := hm4.own hu3 (fun z hz e => by obtain ⟨hge, _⟩ := own_blk hu3 hz; obtain ⟨_, cur, hc⟩ := own_blk ho1 e.symm; have := hc.lt; omega))
          refine EL_val (R_assign rfl) rfl rfl rfl ?_
          refine EL_nil ?_
          refine E_seqD (fun _ => [(8, fun W => W.cell? ⟨g, o + (n2S ks + cntS ks k) * 1, none⟩ = some (.int .i64 q))]) 11 K.mix rfl ?_
          intro w5 hm5 hh5
          (have hm05 := hm04.trans hm5; have R5 := R4.no hm5)
          refine EA_pure 0 rfl (fun _ => R_move rfl) (by kernel_rfl) rfl rfl rfl ?_
          refine EA_pure 1 rfl (fun _ => R_move rfl) (by kernel_rfl) rfl rfl rfl ?_
          refine EA_pure 2 rfl (fun _ => R_move rfl) (by kernel_rfl) rfl rfl rfl ?_
          refine EA_pure 3 rfl (fun _ => R_indexAddr rfl rfl Try.underlying22 K.sz3 (m := n2S ks + cntS ks k) rfl (by omega)) (by kernel_rfl) rfl rfl rfl ?_
          refine EA_load 4 0 [7, 8, 9, 10] rfl rfl K.ag3 rfl (by kernel_rfl) (by kernel_rfl) rfl rfl ?_
          refine EA_pure 5 rfl (fun _ => R_move rfl) (by kernel_rfl) rfl rfl rfl ?_
          refine EA_one 6 rfl (by kernel_rfl) rfl ⟨fun _ => by rw [Nat.mul_one]; exact hm05.cell hcq id, trivial⟩ ?_
          refine EO_call K.bd29 rfl rfl (rpage_oi rfl (OI.no hu4 hm5) (by omega) (part_small hsm _ 30)) ?_
          rintro v6 w6 ⟨ho6, hm6⟩
          (obtain ⟨A6, c6, rfl, _, _⟩ := own_sl ho6; have R6 := R5.no hm6; have hm06 := hm05.trans hm6; have hs6 := hm06.size)
          refine EA_pure 7 rfl (fun _ => R_build (cells := #[.int .i64 q, .slice A6 (pageC (partS ks (34 + 30 * k) 30)).length c6]) K.zr59 K.pl59 rfl rfl) (by kernel_rfl) rfl rfl rfl ?_
          refine EA_one 8 rfl (by kernel_rfl) rfl ⟨fun _ => by rw [Nat.mul_one]; exact hm06.cell hcq id, trivial⟩ ?_
          refine EO_buildSlice Try.underlying33 K.zr59 K.sz59 rfl rfl rfl (fill_whole rfl (by rw [size_madeCells])) rfl ?_
          intro w7 hn7
          refine EA_one 9 rfl (by kernel_rfl) rfl ⟨kl rfl, trivial⟩ ?_
          refine EO_append rfl rfl Try.underlying33 K.sz59 K.zr59 K.by59 rfl (by decide) (hn7.mods.own R6.own fun _ _ h => h) (Src.bk hn7.bk 1 2 [.int .i64 q, .slice A6 (pageC (partS ks (34 + 30 * k) 30)).length c6] rfl (fun j u h => by rw [Nat.zero_add]; show (#[.int .i64 q, .slice A6 (pageC (partS ks (34 + 30 * k) 30)).length c6] : Array Value)[j]? = some u; simpa using h)) (by simp [Value.oneCell']) (by simp only [maxLen]; omega) (by omega) (by have := hn7.size; omega) rfl ?_
          intro v8 w8 ho8 hm8 hat8
          refine EA_pure 10 rfl (fun _ => R_assign rfl) (by kernel_rfl) rfl rfl rfl ?_
          refine EA_done (by kernel_rfl) (Holds.done (by kernel_rfl)) ?_
          refine E_region ?_
          refine EL_val (R_move rfl) rfl rfl rfl ?_
          refine EL_val (R_addE (((n2S ks + cntS ks (k + 1) : Nat) : Int)) rfl rfl (by omega) (by omega) (by omega)) rfl rfl rfl ?_
          refine EL_val (R_assign rfl) rfl rfl rfl ?_
          refine EL_nil ?_
          refine inB_n ?_
          refine thenQ_n ?_
          refine E_region ?_
          refine EL_val (R_move rfl) rfl rfl rfl ?_
          refine EL_val (R_addE (((34 + 30 * (k + 1) : Nat) : Int)) rfl rfl (by omega) (by omega) (by omega)) rfl rfl rfl ?_
          refine EL_val (R_assign rfl) rfl rfl rfl ?_
          refine EL_nil ?_
          refine thenQ_n ?_
          have R7 := R6.no hn7.mods
          have R8 := R7.app (l := pageC (partS ks (34 + 30 * k) 30)) hm8 ho8 (own_mono (hn7.mods.own ho6 fun _ _ h => h) (by have := hm5.size; omega))
          have ho7 := ((ho4'.no hm5).no hm6).no hn7.mods
          refine ⟨rfl, 3 - (k + 1), [(0, .slice A ks.length c), (1, .slice (some ⟨g, o, none⟩) fs.length c'), (4, ptr b4), (8, ptr b8), (10, v8), (11, .int .i64 ((n2S ks + cntS ks (k + 1) : Nat) : Int)), (14, .int .i64 (L1.length : Int)), (15, v4), (16, .int .i64 ((34 + 30 * (k + 1) : Nat) : Int))], by omega, ⟨rfl, rfl, rfl, rfl, rfl, rfl, rfl, rfl, rfl, trivial⟩, k + 1, v8, v4, _, by omega, rfl, rfl, by rw [hW1]; exact R8, hm8.own ho7 fun z hz e => ?_, own_newer (w0 := w) (hB ▸ R7.own) (hm06.trans hn7.mods) hm8⟩
          obtain ⟨_, cur, hc⟩ := own_blk ho7 hz
          obtain ⟨_, cur', hc'⟩ := own_blk R7.own e.symm
          exact absurd (hc.inj hc').2 (by decide)
      · have hk' : k = 3 := by omega
        subst hk'
        refine E_seq ?_
        refine E_seqR ?_
        refine EL_val (R_move rfl) rfl rfl rfl ?_
        first | refine EL_val (R_lss_t rfl rfl (by omega)) rfl rfl rfl ?_ | refine EL_val (R_lss_f rfl rfl (by omega)) rfl rfl rfl ?_
        refine EL_nil ?_
        refine E_cond_f rfl ?_
        refine E_exit ?_
        refine thenQ_e ?_
        refine thenQ_e ?_
        refine inB_eq rfl ?_
        refine thenQ_n ?_
        exact ⟨rfl, [(4, ptr b4), (8, ptr b8), (10, ov), (14, .int .i64 (L1.length : Int)), (15, uv)], ⟨rfl, rfl, rfl, rfl, rfl, trivial⟩, ov, uv, xs, rfl, R1, ho1, hm1⟩
    clear R7 hou hm07'
    rintro e0 w1 ⟨ov, uv, xs, rfl, R1, ho1, hm1⟩
    have hs1 := hm1.size
    have hul := undP_length ks fs (n2S ks) 3
    have hqn : (L1 ++ [(Bv, ([] : List UInt8))] ++ undW ks fs (n2S ks) 3).length = n2S ks + cntS ks 3 := by rw [List.length_append, undW_length, hL2l]
    have husm : Small (undP ks fs (n2S ks) 3) := und_small hft 3 (by omega)
    have how := R1.own
    rw [hqn] at how
    obtain ⟨Au, cu, rfl, _, _⟩ := own_sl ho1
    obtain ⟨go, cap, cur, rfl, hgo, hcur, hcap, hmx, hcz, hct⟩ := own_form how (by omega)

    refine E_seqR ?_
    refine EL_val (R_move rfl) rfl rfl rfl ?_
    refine EL_val (R_move rfl) rfl rfl rfl ?_
    refine EL_val (R_move rfl) rfl rfl rfl ?_
    refine EL_step rfl ?_
    refine EO_call K.bd29 rfl rfl (rpage_oi hul (by rw [hul] at ho1; exact ho1) (by omega) husm) ?_
    rintro v2 w2 ⟨ho2, hm2⟩
    (obtain ⟨A2, c2, rfl, _, _⟩ := own_sl ho2; have R2 := R1.no hm2; have hm02 := hm1.trans hm2; have hs2 := hm02.size; have hcur2 := hm2.bk' hcur)
    refine EL_val (R_indexAddr rfl rfl Try.underlying33 K.sz59 (m := L1.length) rfl (by omega)) rfl rfl rfl ?_
    refine EL_val (R_fieldAddr rfl K.fT59_1) rfl rfl rfl ?_
    refine EL_step rfl ?_
    refine EO_store1 rfl rfl K.sz56 rfl hcur2 (by rw [hcz]; omega) ?_
    intro w3 hu3
    (have hu3' : Upd w2 w3 go (cur.setIfInBounds (L1.length * 2 + 1) (.slice A2 (pageC (undP ks fs (n2S ks) 3)).length c2)) 59 := (by rw [Nat.zero_add] at hu3; exact hu3); have how3 := own_set (j := L1.length * 2 + 1) (hm2.own how fun _ _ h => h) hcur2 hu3' (by omega) (by omega); have h83 := hu3.mods.bk R2.h8 (fun e => by subst e; exact absurd (R2.h8.inj hcur2).2 (by decide)); have h43 := hu3.mods.bk R2.h4 (fun e => by subst e; exact absurd (R2.h4.inj hcur2).2 (by decide)))
    refine EL_nil ?_
    refine E_seqR ?_
    refine EL_val (R_loadAgg rfl K.ag32 (whole_cells h83) (K.sz32)) rfl rfl rfl ?_
    refine EL_val (R_move rfl) rfl rfl rfl ?_
    refine EL_step rfl ?_
    refine EO_storeWhole h43 rfl rfl K.sz32 rfl rfl ?_
    intro w4 hu4
    refine EL_val (R_assign rfl) rfl rfl rfl ?_
    refine EL_val (R_assign rfl) rfl rfl rfl ?_
    refine EL_nil ?_
    refine E_ret ?_
    refine ret_ctt (.inr rfl) rfl rfl rfl rfl K.ag32 (by exact K.sz32) (whole_cells hu4.bk) ?_
    have hwl3 := ((R2.wl.set (l := pageC (undP ks fs (n2S ks) 3)) (own_mono ho2 (by omega)) L1.length (by rw [hqn]; omega)).mods hu3'.mods fun k C hk e => by subst e; exact absurd (hk.inj hcur2).2 (by decide)).mods hu4.mods fun k C hk e => by subst e; exact absurd (h43.inj hk).2 (by decide)
    have how4 := own_upd how3 hu4 h43 (by decide)
    have hge := R1.ge
    have hset : (L1 ++ [(Bv, ([] : List UInt8))] ++ undW ks fs (n2S ks) 3).set L1.length (((L1 ++ [(Bv, ([] : List UInt8))] ++ undW ks fs (n2S ks) 3)[L1.length]'(by rw [hqn]; omega)).1, pageC (undP ks fs (n2S ks) 3)) = planL ks fs := by
      have e1 : (L1 ++ [(Bv, ([] : List UInt8))] ++ undW ks fs (n2S ks) 3)[L1.length]'(by rw [hqn]; omega) = (Bv, []) := by
        rw [List.getElem_append_left (by simp), List.getElem_append_right (by omega)]
        simp
      rw [e1]
      unfold planL
      rw [← hL1, hb, List.append_assoc L1, List.set_append_right _ _ (by omega), Nat.sub_self]
      rw [oneL, if_pos rfl, ← hBvv, List.append_assoc]
      rfl
    rw [hset] at hwl3
    have hlen : n2S ks + cntS ks 3 = (planL ks fs).length := by rw [← hset, List.length_set, hqn]
    rw [← hG, ← hBv]
    exact ⟨⟨_, _, rfl, (by rw [← hlen]; exact how4), hwl3⟩, (hm02.trans' hu3'.mods fun k hk e => by omega).trans' hu4.mods fun k hk e => by omega⟩
end Go.Proofs.Ytifmdcjncbbcgaa
