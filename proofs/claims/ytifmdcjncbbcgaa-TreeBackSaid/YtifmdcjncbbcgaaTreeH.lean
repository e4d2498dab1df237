/- tree.Plan. -/
import Derived.Test.YtifmdcjncbbcgaaTreeG
set_option linter.unusedVariables false
set_option linter.unusedSimpArgs false
set_option maxRecDepth 100000
namespace Go.Proofs.Ytifmdcjncbbcgaa
open Go.EW Go.RowKit

/-- in the midst of a plan -/
structure PS (w : World) (B b2 b4 b9 m : Nat) (A A' : Option Addr) (c c' : Nat) (ks fs : List Int) (N : Array Value) (vw : Value) (L : List (Int × List UInt8)) (xs : List Value) : Prop where
  h2 : Bk w b2 #[.slice A ks.length c] 22
  h4 : Bk w b4 nodeZ 32
  h9 : Bk w b9 N 32
  hm : MK w B m A' c' fs vw L xs
  ge : B ≤ b2 ∧ B ≤ b4 ∧ B ≤ b9 ∧ b4 ≠ b9
theorem PS.no {w w' : World} {B b2 b4 b9 m : Nat} {A A' : Option Addr} {c c' : Nat} {ks fs : List Int} {N : Array Value} {vw : Value} {L : List (Int × List UInt8)} {xs : List Value} (h : PS w B b2 b4 b9 m A A' c c' ks fs N vw L xs) (hm : Mods No w w') : PS w' B b2 b4 b9 m A A' c c' ks fs N vw L xs :=
  ⟨hm.bk' h.h2, hm.bk' h.h4, hm.bk' h.h9, h.hm.no hm, h.ge⟩
theorem PS.mv {w w' : World} {B b2 b4 b9 m : Nat} {A A' : Option Addr} {c c' : Nat} {ks fs : List Int} {N : Array Value} {vw vw' : Value} {L L' : List (Int × List UInt8)} {xs xs' : List Value} (h : PS w B b2 b4 b9 m A A' c c' ks fs N vw L xs) (hm : TM MKT B w w') (hk : MK w' B m A' c' fs vw' L' xs') : PS w' B b2 b4 b9 m A A' c c' ks fs N vw' L' xs' :=
  ⟨hm.bk h.h2 (by decide), hm.bk h.h4 (by decide), hm.bk h.h9 (by decide), hk, h.ge⟩
theorem PS.set {w w' : World} {B b2 b4 b9 m : Nat} {A A' : Option Addr} {c c' : Nat} {ks fs : List Int} {N N' : Array Value} {vw : Value} {L : List (Int × List UInt8)} {xs : List Value} (h : PS w B b2 b4 b9 m A A' c c' ks fs N vw L xs) (hu : Upd w w' b9 N' 32) : PS w' B b2 b4 b9 m A A' c c' ks fs N' vw L xs :=
  ⟨hu.mods.bk h.h2 (fun e => by subst e; exact absurd (h.h2.inj h.h9).2 (by decide)), hu.mods.bk h.h4 h.ge.2.2.2, hu.bk, h.hm.other hu h.h9 (by decide) (by decide) (by decide), h.ge⟩
def PT (t : TypeId) : Prop := MKT t ∨ t = 32
instance (t : TypeId) : Decidable (PT t) := inferInstanceAs (Decidable (_ ∨ _))
theorem PT.of {B : Nat} {w w' : World} (h : TM MKT B w w') : TM PT B w w' := Mods.mono h fun i _ ⟨h1, C, t, h2, h3⟩ => ⟨h1, C, t, h2, .inl h3⟩
/-- what a plan's walk keeps: the arguments, and all that is older -/
theorem plan_err {w : World} {A A' : Option Addr} {ks fs : List Int} {c c' : Nat} (hk : IS w A ks) (hc : ks.length ≤ c) (hl : ks.length ≤ 9223372036854775807) (hA' : ∀ a, A' = some a → a.spot = none) (hf : IS w A' fs) (hc' : fs.length ≤ c') (hl' : fs.length ≤ 9223372036854775807) (he : planE ks fs ≠ 0) :
    Ret Try.prog 11 [.slice A ks.length c, .slice A' fs.length c'] w fun v w' => v = .tuple #[.agg nodeZ, .slice none 0 0, .int .i64 (planE ks fs)] ∧ Mods No w w' := by
  have hnd := fun {w' : World} (h : Mods No w w') => need_ok (c := c) (hk.no h) hc hl
  cases hp : ptrsB ks with
  | false =>
    have hE : planE ks fs = 1 := by rw [planE, hp]; rfl
    rw [hp] at hnd
    refine Ret.enter Try.func11 rfl Try.ntmps11 rfl ?_
    simp only [argEnv, Nat.reduceAdd]
    refine E_seqR ?_
    refine EL_step rfl ?_
    refine EO_box rfl rfl ?_
    intro w1 hn1
    refine EL_step rfl ?_
    refine EO_alloc K.zr32 rfl ?_
    intro w2 hn2
    refine EL_val (R_assign rfl) rfl rfl rfl ?_
    refine EL_val (R_assign rfl) rfl rfl rfl ?_
    refine EL_nil ?_
    refine E_seqR ?_
    refine EL_val (R_load rfl K.ag22 ((hn2.mods.bk' hn1.bk).cell rfl)) rfl rfl rfl ?_
    refine EL_step rfl ?_
    refine EO_call K.bd7 rfl rfl (hnd (hn1.mods.trans hn2.mods)) ?_
    rintro _ w3 ⟨rfl, hm3⟩
    refine EL_val (R_move rfl) rfl rfl rfl ?_
    refine EL_val (R_extract rfl rfl) rfl rfl rfl ?_
    refine EL_val (R_extract rfl rfl) rfl rfl rfl ?_
    refine EL_val (R_assign rfl) rfl rfl rfl ?_
    refine EL_val (R_assign rfl) rfl rfl rfl ?_
    refine EL_nil ?_
    refine E_seq ?_
    refine E_seqR ?_
    refine EL_val (R_move rfl) rfl rfl rfl ?_
    first | refine EL_val (R_eql_t rfl rfl (by omega)) rfl rfl rfl ?_ | refine EL_val (R_eql_f rfl rfl (by omega)) rfl rfl rfl ?_
    refine EL_nil ?_
    refine E_cond_f rfl ?_
    refine E_skip ?_
    refine thenQ_n ?_
    refine E_seq ?_
    refine E_seqR ?_
    refine EL_val (R_move rfl) rfl rfl rfl ?_
    first | refine EL_val (R_neq_t rfl rfl (by omega)) rfl rfl rfl ?_ | refine EL_val (R_neq_f rfl rfl (by omega)) rfl rfl rfl ?_
    refine EL_nil ?_
    refine E_cond_t rfl ?_
    refine E_seqR ?_
    refine EL_val (R_build K.zr32 K.pl32 rfl (cells := nodeZ) rfl) rfl rfl rfl ?_
    refine EL_val (R_move rfl) rfl rfl rfl ?_
    refine EL_step rfl ?_
    refine EO_storeWhole (hm3.bk' hn2.bk) rfl rfl K.sz32 rfl rfl ?_
    intro w4 hu4
    refine EL_val (R_assign rfl) rfl rfl rfl ?_
    refine EL_val (R_assign rfl) rfl rfl rfl ?_
    refine EL_nil ?_
    refine E_ret ?_
    refine thenQ_r ?_
    refine ret_ctt (.inr rfl) rfl rfl rfl rfl K.ag32 (by exact K.sz32) (whole_cells hu4.bk) ?_
    exact ⟨by rw [hE]; rfl, ((hn1.mods.trans hn2.mods).trans hm3).trans' hu4.mods fun k hk e => by have := hm3.size; have := hn1.size; have := hn2.size; omega⟩
  | true =>
    have h96 : ks.length ≤ 96 := by unfold ptrsB at hp; simp at hp; exact hp.2
    have hE : planE ks fs = freshE ks fs (needS ks) := by rw [planE, hp]; rfl
    rw [hE] at he ⊢
    rw [hp] at hnd
    simp only [if_true] at hnd
    have hn5 : needS ks ≤ 1000 := by have := cntS_le ks 3; unfold needS; split <;> split <;> omega
    have hfr := fun {w' : World} {b : Nat} (h : Mods No w w') (hb : Bk w' b #[.slice A ks.length c] 22) => fresh_ok (caps := [ptr b]) (n := needS ks) hA' (hf.no h) hc' hl' K.bd23 (fun x => among_ok (x := x) hb (hk.no h) (by omega)) hn5
    refine Ret.enter Try.func11 rfl Try.ntmps11 rfl ?_
    simp only [argEnv, Nat.reduceAdd]
    refine E_seqR ?_
    refine EL_step rfl ?_
    refine EO_box rfl rfl ?_
    intro w1 hn1
    refine EL_step rfl ?_
    refine EO_alloc K.zr32 rfl ?_
    intro w2 hn2
    refine EL_val (R_assign rfl) rfl rfl rfl ?_
    refine EL_val (R_assign rfl) rfl rfl rfl ?_
    refine EL_nil ?_
    refine E_seqR ?_
    refine EL_val (R_load rfl K.ag22 ((hn2.mods.bk' hn1.bk).cell rfl)) rfl rfl rfl ?_
    refine EL_step rfl ?_
    refine EO_call K.bd7 rfl rfl (hnd (hn1.mods.trans hn2.mods)) ?_
    rintro _ w3 ⟨rfl, hm3⟩
    refine EL_val (R_move rfl) rfl rfl rfl ?_
    refine EL_val (R_extract rfl rfl) rfl rfl rfl ?_
    refine EL_val (R_extract rfl rfl) rfl rfl rfl ?_
    refine EL_val (R_assign rfl) rfl rfl rfl ?_
    refine EL_val (R_assign rfl) rfl rfl rfl ?_
    refine EL_nil ?_
    refine E_seq ?_
    refine E_seqR ?_
    refine EL_val (R_move rfl) rfl rfl rfl ?_
    first | refine EL_val (R_eql_t rfl rfl (by omega)) rfl rfl rfl ?_ | refine EL_val (R_eql_f rfl rfl (by omega)) rfl rfl rfl ?_
    refine EL_nil ?_
    refine E_cond_t rfl ?_
    refine E_region ?_
    refine EL_val (R_move rfl) rfl rfl rfl ?_
    refine EL_val (R_move rfl) rfl rfl rfl ?_
    refine EL_val (R_makeFunc rfl) rfl rfl rfl ?_
    refine EL_step rfl ?_
    refine EO_call K.bd22 rfl rfl (hfr ((hn1.mods.trans hn2.mods).trans hm3) (hm3.bk' (hn2.mods.bk' hn1.bk))) ?_
    rintro _ _ ⟨rfl, rfl⟩
    refine EL_val (R_assign rfl) rfl rfl rfl ?_
    refine EL_nil ?_
    refine thenQ_n ?_
    refine E_seq ?_
    refine E_seqR ?_
    refine EL_val (R_move rfl) rfl rfl rfl ?_
    first | refine EL_val (R_neq_t rfl rfl (he)) rfl rfl rfl ?_ | refine EL_val (R_neq_f rfl rfl (he)) rfl rfl rfl ?_
    refine EL_nil ?_
    refine E_cond_t rfl ?_
    refine E_seqR ?_
    refine EL_val (R_build K.zr32 K.pl32 rfl (cells := nodeZ) rfl) rfl rfl rfl ?_
    refine EL_val (R_move rfl) rfl rfl rfl ?_
    refine EL_step rfl ?_
    refine EO_storeWhole (hm3.bk' hn2.bk) rfl rfl K.sz32 rfl rfl ?_
    intro w4 hu4
    refine EL_val (R_assign rfl) rfl rfl rfl ?_
    refine EL_val (R_assign rfl) rfl rfl rfl ?_
    refine EL_nil ?_
    refine E_ret ?_
    refine thenQ_r ?_
    refine ret_ctt (.inr rfl) rfl rfl rfl rfl K.ag32 (by exact K.sz32) (whole_cells hu4.bk) ?_
    exact ⟨rfl, ((hn1.mods.trans hn2.mods).trans hm3).trans' hu4.mods fun k hk e => by have := hm3.size; have := hn1.size; have := hn2.size; omega⟩
theorem plan_ok {w : World} {A A' : Option Addr} {ks fs : List Int} {c c' : Nat} (hk : IS w A ks) (hkA : ∀ g i, A = some ⟨g, i, none⟩ → g < w.heap.size) (hc : ks.length ≤ c) (hl : ks.length ≤ 9223372036854775807) (hA' : ∀ a, A' = some a → a.spot = none) (hf : IS w A' fs) (hfA : ∀ g i, A' = some ⟨g, i, none⟩ → g < w.heap.size) (hc' : fs.length ≤ c') (hl' : fs.length ≤ 9223372036854775807) (he : planE ks fs = 0) :
    Ret Try.prog 11 [.slice A ks.length c, .slice A' fs.length c'] w fun v w' => (∃ vw xs, v = .tuple #[.agg (nodeC ks (planG ks fs) (planB ks fs)), vw, .int .i64 0] ∧ w'.ownsRow w.heap.size 59 2 vw (planL ks fs).length xs ∧ WLo w' w.heap.size (planL ks fs) xs) ∧ Mods No w w' := by
  have hnd := fun {w' : World} (h : Mods No w w') => need_ok (c := c) (hk.no h) hc hl
  have hp : ptrsB ks = true := by
    cases hp : ptrsB ks with
    | true => rfl
    | false => rw [planE, hp] at he; cases he
  have hgood : Good ks := by unfold ptrsB at hp; simp at hp; exact hp.1
  have h96 : ks.length ≤ 96 := by unfold ptrsB at hp; simp at hp; exact hp.2
  have hE : freshE ks fs (needS ks) = 0 := by rw [planE, hp] at he; exact he
  rw [hp] at hnd
  simp only [if_true] at hnd
  have hn2 := need_n2 ks
  have hc3 := cntS_le ks 3
  have hn5 : needS ks ≤ 1000 := by unfold needS; split <;> split <;> omega
  have hfl : needS ks ≤ fs.length := by unfold freshE at hE; split at hE <;> omega
  have hft : FreshTo ks fs (needS ks) := by
    unfold freshE at hE
    rw [if_neg (by omega)] at hE
    split at hE
    · assumption
    · cases hE
  have hsm := good_small hgood
  have hfr := fun {w' : World} {b : Nat} (h : Mods No w w') (hb : Bk w' b #[.slice A ks.length c] 22) => fresh_ok (caps := [ptr b]) (n := needS ks) hA' (hf.no h) hc' hl' K.bd23 (fun x => among_ok (x := x) hb (hk.no h) (by omega)) hn5
  rw [hE] at hfr
  have hpt := fun {w' : World} (h : IS w' A ks) (a n : Nat) (ha : a ≤ 1000) (hn : 0 < n) (hn2 : n ≤ 96) => part_ok (c := c) (a := a) (n := n) h hc (by omega) ha hn hn2
  obtain ⟨B, hB⟩ : ∃ B, B = w.heap.size := ⟨_, rfl⟩
  rw [← hB] at hkA hfA ⊢
  refine Ret.enter Try.func11 rfl Try.ntmps11 rfl ?_
  simp only [argEnv, Nat.reduceAdd]
  refine E_seqR ?_
  refine EL_step rfl ?_
  refine EO_box rfl rfl ?_
  intro w1 hn1
  refine EL_step rfl ?_
  refine EO_alloc K.zr32 rfl ?_
  intro w2 hn2'
  refine EL_val (R_assign rfl) rfl rfl rfl ?_
  refine EL_val (R_assign rfl) rfl rfl rfl ?_
  refine EL_nil ?_
  refine E_seqR ?_
  refine EL_val (R_load rfl K.ag22 ((hn2'.mods.bk' hn1.bk).cell rfl)) rfl rfl rfl ?_
  refine EL_step rfl ?_
  refine EO_call K.bd7 rfl rfl (hnd (hn1.mods.trans hn2'.mods)) ?_
  rintro _ w3 ⟨rfl, hm3⟩
  refine EL_val (R_move rfl) rfl rfl rfl ?_
  refine EL_val (R_extract rfl rfl) rfl rfl rfl ?_
  refine EL_val (R_extract rfl rfl) rfl rfl rfl ?_
  refine EL_val (R_assign rfl) rfl rfl rfl ?_
  refine EL_val (R_assign rfl) rfl rfl rfl ?_
  refine EL_nil ?_
  refine E_seq ?_
  refine E_seqR ?_
  refine EL_val (R_move rfl) rfl rfl rfl ?_
  first | refine EL_val (R_eql_t rfl rfl (by omega)) rfl rfl rfl ?_ | refine EL_val (R_eql_f rfl rfl (by omega)) rfl rfl rfl ?_
  refine EL_nil ?_
  refine E_cond_t rfl ?_
  refine E_region ?_
  refine EL_val (R_move rfl) rfl rfl rfl ?_
  refine EL_val (R_move rfl) rfl rfl rfl ?_
  refine EL_val (R_makeFunc rfl) rfl rfl rfl ?_
  refine EL_step rfl ?_
  refine EO_call K.bd22 rfl rfl (hfr ((hn1.mods.trans hn2'.mods).trans hm3) (hm3.bk' (hn2'.mods.bk' hn1.bk))) ?_
  rintro _ _ ⟨rfl, rfl⟩
  refine EL_val (R_assign rfl) rfl rfl rfl ?_
  refine EL_nil ?_
  refine thenQ_n ?_
  refine E_seq ?_
  refine E_seqR ?_
  refine EL_val (R_move rfl) rfl rfl rfl ?_
  first | refine EL_val (R_neq_t rfl rfl (by omega)) rfl rfl rfl ?_ | refine EL_val (R_neq_f rfl rfl (by omega)) rfl rfl rfl ?_
  refine EL_nil ?_
  refine E_cond_f rfl ?_
  refine E_skip ?_
  refine thenQ_n ?_
  obtain ⟨b2, hb2⟩ : ∃ b2, b2 = w.heap.size := ⟨_, rfl⟩
  obtain ⟨b4, hb4⟩ : ∃ b4, b4 = w1.heap.size := ⟨_, rfl⟩
  have k2 : Bk w3 b2 #[.slice A ks.length c] 22 := hb2 ▸ hm3.bk' (hn2'.mods.bk' hn1.bk)
  have k4 : Bk w3 b4 nodeZ 32 := hb4 ▸ hm3.bk' hn2'.bk
  have hm03 : Mods No w w3 := (hn1.mods.trans hn2'.mods).trans hm3
  have hs3 : w3.heap.size ≥ w.heap.size + 2 := by have := hm3.size; have := hn1.size; have := hn2'.size; omega
  have hb24 : b4 = w.heap.size + 1 := by have := hn1.size; omega
  rw [← hb2, ← hb4]
  clear hn1 hn2' hm3 hb4
  obtain ⟨b9, hb9⟩ : ∃ b9, b9 = w3.heap.size := ⟨_, rfl⟩
  have e4 := partS_length ks 0 4
  have e5 := partS_length ks 4 30
  have hb4lt := k4.lt
  have hb2lt := k2.lt
  have h34 : (partS ks 34 96).any nzI = b1S ks := some34 h96 (by omega)
  have hpt34 := fun {w' : World} (h : IS w' A ks) => hpt h 34 96 (by omega) (by omega) (by omega)
  rw [h34] at hpt34
  refine E_seqR ?_
  refine EL_val (R_build K.zr32 K.pl32 rfl (cells := nodeC [] 0 0) rfl) rfl rfl rfl ?_
  refine EL_step rfl ?_
  refine EO_alloc K.zr32 rfl ?_
  intro w4 hn4
  refine EL_step rfl ?_
  refine EO_storeWhole hn4.bk rfl rfl K.sz32 rfl rfl ?_
  intro w5 hu5
  (rw [← hb9] at hu5 ⊢; have k2' := hu5.mods.bk (hn4.mods.bk' k2) (fun e => by omega); have k4' := hu5.mods.bk (hn4.mods.bk' k4) (fun e => by omega); have hm05 : Mods No w w5 := (hm03.trans hn4.mods).trans' hu5.mods (fun k hk e => by omega))
  refine EL_nil ?_
  refine E_seqR ?_
  refine EL_val (R_load rfl K.ag22 (k2'.cell rfl)) rfl rfl rfl ?_
  refine EL_step rfl ?_
  refine EO_call K.bd19 rfl rfl (hpt (hk.no hm05) 0 4 (by omega) (by omega) (by omega)) ?_
  rintro _ w6 ⟨⟨u, rfl, hu⟩, hm6⟩
  (obtain ⟨Au, cu, rfl, hcu, his⟩ := hu.sl; obtain ⟨g3, o3, rfl, hcl3⟩ := his.2 (by omega))
  refine EL_val (R_move rfl) rfl rfl rfl ?_
  refine EL_val (R_extract rfl rfl) rfl rfl rfl ?_
  refine EL_val (R_extract rfl rfl) rfl rfl rfl ?_
  refine EL_val (R_assign rfl) rfl rfl rfl ?_
  refine EL_val (R_assign rfl) rfl rfl rfl ?_
  refine EL_nil ?_
  refine E_seqR ?_
  refine EL_val (R_move rfl) rfl rfl rfl ?_
  refine EL_val (R_arrPtr rfl Try.underlying29 (by omega)) rfl rfl rfl ?_
  refine EL_val (R_loadAgg rfl K.ag29 (hcl3) (K.sz29)) rfl rfl rfl ?_
  refine EL_val (R_fieldAddr rfl K.fT32_4) rfl rfl rfl ?_
  refine EL_step rfl ?_
  refine EO_storeAgg rfl rfl K.sz29 (fun v hv => ival_one v (by simpa using hv)) (hm6.bk' hu5.bk) (by show 4 + 4 ≤ 12; omega) ?_
  intro w7 hu7
  refine EL_nil ?_
  have hu7' : Upd w6 w7 b9 (nodeC ks 0 0) 32 := hu7
  have k2'' := hu7'.mods.bk (hm6.bk' k2') (fun e => by omega)
  have k4'' := hu7'.mods.bk (hm6.bk' k4') (fun e => by omega)
  have hm07 : Mods No w w7 := (hm05.trans hm6).trans' hu7'.mods fun k hk e => by omega
  have k9 := hu7'.bk
  have hs7 := hm07.size
  clear hu7 hu7' hu5 hn4 k2' k4' hm6 hm05 hu his hcl3 k2 k4
  obtain ⟨m, hmm⟩ : ∃ m, m = w7.heap.size := ⟨_, rfl⟩
  obtain ⟨G, hG⟩ : ∃ G, G = planG ks fs := ⟨_, rfl⟩
  obtain ⟨Bv, hBv⟩ : ∃ Bv, Bv = planB ks fs := ⟨_, rfl⟩
  have hneed := need_le ks
  have hn12 : n1S ks = (if s1S ks = true then 1 else 0) := rfl
  have hn1le : n1S ks ≤ 1 := by rw [hn12]; split <;> omega
  have hs1n : s1S ks = true → 1 ≤ needS ks := fun h => by rw [hn2, n2S, n1S, if_pos h]; omega
  have hb1n : b1S ks = true → n1S ks + 2 ≤ needS ks ∧ 0 < cntS ks 3 := fun h => by
    have h' : 0 < cntS ks 3 := by simpa [b1S] using h
    rw [hn2, n2S, if_pos h]; omega
  have hpl0 : PL [] fs := rfl
  have hpl1 : PL (oneL fs 0 (s1S ks) (pageC (partS ks 4 30))) fs := by have := hpl0.one (s1S ks) (fun h => by have := hs1n h; simp; omega) (pageC (partS ks 4 30)); simpa using this
  obtain ⟨L1, hL1⟩ : ∃ L1, L1 = oneL fs 0 (s1S ks) (pageC (partS ks 4 30)) := ⟨_, rfl⟩
  rw [← hL1] at hpl1
  have hL1l : L1.length = n1S ks := by rw [hL1, oneL_length]; rfl
  have hpl2 := hpl1.one (b1S ks) (fun h => by have := hb1n h; omega) []
  rw [hL1l] at hpl2
  obtain ⟨L2, hL2⟩ : ∃ L2, L2 = L1 ++ oneL fs (n1S ks) (b1S ks) [] := ⟨_, rfl⟩
  rw [← hL2] at hpl2
  have hL2l : L2.length = n2S ks := by rw [hL2, List.length_append, oneL_length, hL1l]; rfl
  have hfill1 := fill_one (m := needS ks) hpl0 hft (b := s1S ks) (fun h => by have := hs1n h; simp; omega) (partS ks 4 30)
  simp only [List.nil_append, List.length_nil] at hfill1
  rw [← hL1, show (if s1S ks then fs.getD 0 0 else 0) = G from hG.symm] at hfill1
  have hG0 : (if s1S ks then fs.getD ([] : List (Int × List UInt8)).length 0 else 0) = G := hG.symm
  have hB1 : (if b1S ks then fs.getD L1.length 0 else 0) = Bv := by rw [hL1l, hBv]; rfl
  have hN1 : ∀ w' : World, ∀ w'' : World, Upd w' w'' b9 ((nodeC ks 0 0).setIfInBounds (0 + 8) (.int .i64 G)) 32 → Upd w' w'' b9 (nodeC ks G 0) 32 := fun _ _ h => h
  have hN2 : ∀ w' : World, ∀ w'' : World, Upd w' w'' b9 ((nodeC ks G 0).setIfInBounds (0 + 9) (.int .i64 Bv)) 32 → Upd w' w'' b9 (nodeC ks G Bv) 32 := fun _ _ h => h
  refine E_seqR ?_
  refine EL_val (R_move rfl) rfl rfl rfl ?_
  refine EL_val (R_build (cells := #[.slice A' fs.length c', .slice none 0 0]) K.zr51 K.pl51 rfl rfl) rfl rfl rfl ?_
  refine EL_step rfl ?_
  refine EO_box rfl rfl ?_
  intro w8 hn8
  refine EL_val (R_assign rfl) rfl rfl rfl ?_
  refine EL_nil ?_
  have P8 : PS w8 B b2 b4 b9 m A A' c c' ks fs (nodeC ks 0 0) (.slice none 0 0) [] [] := ⟨hn8.mods.bk' k2'', hn8.mods.bk' k4'', hn8.mods.bk' k9, ⟨hmm ▸ hn8.bk, by omega, World.ownsRow_nil _ _ _ _, trivial⟩, by omega, by omega, by omega, by omega⟩
  have hm08 : Mods No w w8 := hm07.trans hn8.mods
  rw [← hmm]
  clear hn8 k2'' k4'' k9 hmm
  have hs8 := hm08.size
  refine E_seqR ?_
  refine EL_val (R_load rfl K.ag22 (P8.h2.cell rfl)) rfl rfl rfl ?_
  refine EL_step rfl ?_
  refine EO_call K.bd19 rfl rfl (hpt (hk.no hm08) 4 30 (by omega) (by omega) (by omega)) ?_
  rintro _ w9 ⟨⟨u, rfl, hu⟩, hm9⟩
  (obtain ⟨A5, c5, rfl, _, _⟩ := hu.sl; have P9 := P8.no hm9; have hm09 := hm08.trans hm9; have hs9 := hm9.size)
  refine EL_val (R_move rfl) rfl rfl rfl ?_
  refine EL_val (R_extract rfl rfl) rfl rfl rfl ?_
  refine EL_val (R_extract rfl rfl) rfl rfl rfl ?_
  refine EL_val (R_assign rfl) rfl rfl rfl ?_
  refine EL_val (R_assign rfl) rfl rfl rfl ?_
  refine EL_nil ?_
  refine E_seqR ?_
  refine EL_val (R_move rfl) rfl rfl rfl ?_
  refine EL_val (R_move rfl) rfl rfl rfl ?_
  refine EL_step rfl ?_
  refine EO_call K.bd25 rfl rfl (reserve_any (b := s1S ks) P9.hm (by omega) (hf.no hm09) (fun h => by have := hs1n h; simp; omega) (by simp)) ?_
  rintro _ w10 ⟨rfl, ⟨vw1, xs1, hMK1⟩, hm10⟩
  (rw [hG0]; have P10 := P9.mv hm10 hMK1; have hm010 := TM.no_of hm09 (PT.of hm10) (by omega))
  refine EL_val (R_fieldAddr rfl K.fT32_5) rfl rfl rfl ?_
  refine EL_step rfl ?_
  refine EO_store1 rfl rfl K.sz3 rfl P10.h9 (by show 0 + 8 < 12; omega) ?_
  intro w11 hu11
  (have hu11' := hN1 _ _ hu11; have P11 := P10.set hu11'; have hm011 := TM.no_of hm010 (TM.upd (T := PT) hu11' P10.h9 P10.ge.2.2.1 (.inr rfl)) (by omega); have hs11 := hm011.size)
  refine EL_nil ?_
  refine E_seqR ?_
  refine EL_val (R_move rfl) rfl rfl rfl ?_
  refine EL_val (R_fieldAddr rfl K.fT32_5) rfl rfl rfl ?_
  refine EL_val (R_load rfl K.ag3 (P11.h9.cell rfl)) rfl rfl rfl ?_
  refine EL_val (R_move rfl) rfl rfl rfl ?_
  refine EL_step rfl ?_
  refine EO_call K.bd26 rfl rfl (fill_ok (a := G) P11.hm (by omega) (by simp [oneL_length]; split <;> omega) (base := w8.heap.size) (own_upd (hm10.own hu (by decide)) hu11' P10.h9 (by decide)) (by omega) (part_small hsm 4 30)) ?_
  rintro _ w12 ⟨⟨xs2, hMK2⟩, hm12⟩
  refine EL_nil ?_
  have P12 := P11.mv hm12 hMK2
  simp only [List.nil_append, List.length_nil] at P12
  rw [hfill1] at P12
  have hm012 : Mods No w w12 := TM.no_of hm011 (PT.of hm12) (by omega)
  have hs12 := hm012.size
  clear P8 P9 P10 P11 hu hu11 hu11' hMK1 hMK2 hm9 hm10 hm12 hm08 hm09 hm010 hm011 hs9 hs11
  refine E_seqR ?_
  refine EL_val (R_load rfl K.ag22 (P12.h2.cell rfl)) rfl rfl rfl ?_
  refine EL_step rfl ?_
  refine EO_call K.bd19 rfl rfl (hpt34 (hk.no hm012)) ?_
  rintro _ w13 ⟨⟨u, rfl, hu⟩, hm13⟩
  (have P13 := P12.no hm13; have hm013 := hm012.trans hm13; have hs13 := hm13.size)
  refine EL_val (R_move rfl) rfl rfl rfl ?_
  refine EL_val (R_extract rfl rfl) rfl rfl rfl ?_
  refine EL_val (R_extract rfl rfl) rfl rfl rfl ?_
  refine EL_val (R_assign rfl) rfl rfl rfl ?_
  refine EL_nil ?_
  refine E_seqR ?_
  refine EL_val (R_move rfl) rfl rfl rfl ?_
  refine EL_val (R_move rfl) rfl rfl rfl ?_
  refine EL_step rfl ?_
  refine EO_call K.bd25 rfl rfl (reserve_any (b := b1S ks) P13.hm (by omega) (hf.no hm013) (fun h => by have := hb1n h; omega) (by omega)) ?_
  rintro _ w14 ⟨rfl, ⟨vw3, xs3, hMK3⟩, hm14⟩
  (rw [hB1]; have P14 := P13.mv hm14 hMK3; have hm014 := TM.no_of hm013 (PT.of hm14) (by omega))
  refine EL_val (R_fieldAddr rfl K.fT32_6) rfl rfl rfl ?_
  refine EL_step rfl ?_
  refine EO_store1 rfl rfl K.sz3 rfl P14.h9 (by show 0 + 9 < 12; omega) ?_
  intro w15 hu15
  refine EL_nil ?_
  refine E_seqR ?_
  refine EL_val (R_assign rfl) rfl rfl rfl ?_
  refine EL_nil ?_
  refine E_seq ?_
  refine E_seqR ?_
  refine EL_val (R_assign rfl) rfl rfl rfl ?_
  refine EL_nil ?_
  have hu15' := hN2 _ _ hu15
  have P15 := P14.set hu15'
  rw [hL1l, ← hL2] at P15
  have hm015 : Mods No w w15 := TM.no_of hm014 (TM.upd (T := PT) hu15' P14.h9 P14.ge.2.2.1 (.inr rfl)) (by omega)
  clear P12 P13 P14 hu hu15 hu15' hMK3 hm13 hm14 hm012 hm013 hm014 hs13
  refine E_cut (fun e0 w' => ∃ k vu vw xs, k ≤ 3 ∧ ks.length ≤ 34 + 30 * k ∧ e0 = [(2, ptr b2), (4, ptr b4), (9, ptr b9), (12, ptr m), (15, vu)] ∧ PS w' B b2 b4 b9 m A A' c c' ks fs (nodeC ks G Bv) vw (L2 ++ undW ks fs (n2S ks) k) xs ∧ OI B w' vu (undP ks fs (n2S ks) k) ∧ Mods No w w') ?_ ?_
  · refine E_block ?_
    refine E_loop (fun m' e' w' => ∃ k vu vw xs, k ≤ 3 ∧ m' = 3 - k ∧ e' = [(2, ptr b2), (4, ptr b4), (9, ptr b9), (12, ptr m), (15, vu), (16, .int .i64 ((34 + 30 * (k) : Nat) : Int))] ∧ PS w' B b2 b4 b9 m A A' c c' ks fs (nodeC ks G Bv) vw (L2 ++ undW ks fs (n2S ks) k) xs ∧ OI B w' vu (undP ks fs (n2S ks) k) ∧ Mods No w w') 3 [(2, ptr b2), (4, ptr b4), (9, ptr b9), (12, ptr m), (15, .slice none 0 0), (16, .int .i64 ((34 + 30 * (0) : Nat) : Int))] ⟨rfl, rfl, rfl, rfl, rfl, rfl, trivial⟩ ⟨0, _, _, _, by omega, rfl, rfl, by simpa [undW] using P15, OI.nil, hm015⟩ ?_
    clear P15 hm015
    rintro m' e w1 ⟨k, vu, vw, xs, hk3, rfl, rfl, P1, ho1, hm1⟩
    have hs1 := hm1.size
    by_cases hlt : 34 + 30 * k < ks.length
    · have hcl := cntS_le ks k
      have hcm := cntS_mono (ks := ks) (i := k + 1) (j := 3) (by omega)
      have hcs : cntS ks (k + 1) = cntS ks k + (if someS ks (34 + 30 * k) 30 then 1 else 0) := rfl
      have hb : someS ks (34 + 30 * k) 30 = true → cntS ks k + 1 ≤ cntS ks 3 := fun h => by rw [if_pos h] at hcs; omega
      have hq : (L2 ++ undW ks fs (n2S ks) k).length = n2S ks + cntS ks k := by rw [List.length_append, undW_length, hL2l]
      have hplk := hpl2.und hL2l (ks := ks) k (by have := cntS_mono (ks := ks) (i := k) (j := 3) (by omega); omega)
      have hfk := fill_one hplk hft (b := someS ks (34 + 30 * k) 30) (fun h => by have := hb h; rw [hq]; omega) (partS ks (34 + 30 * k) 30)
      have hnext : (L2 ++ undW ks fs (n2S ks) k) ++ oneL fs (n2S ks + cntS ks k) (someS ks (34 + 30 * k) 30) (pageC (partS ks (34 + 30 * k) 30)) = L2 ++ undW ks fs (n2S ks) (k + 1) := by rw [List.append_assoc]; rfl
      have ek := partS_length ks (34 + 30 * k) 30
      have hul := undP_length ks fs (n2S ks) k
      rw [hq, hnext] at hfk
      obtain ⟨q, hq'⟩ : ∃ q, q = (if someS ks (34 + 30 * k) 30 then fs.getD (n2S ks + cntS ks k) 0 else 0) := ⟨_, rfl⟩
      rw [← hq'] at hfk
      have hq2 : (if someS ks (34 + 30 * k) 30 then fs.getD (L2 ++ undW ks fs (n2S ks) k).length 0 else 0) = q := by rw [hq, hq']
      refine E_seq ?_
      refine E_seqR ?_
      refine EL_val (R_move rfl) rfl rfl rfl ?_
      refine EL_val (R_load rfl K.ag22 (P1.h2.cell rfl)) rfl rfl rfl ?_
      refine EL_val (R_lenSlice rfl Try.underlying22) rfl rfl rfl ?_
      first | refine EL_val (R_lss_t rfl rfl (by omega)) rfl rfl rfl ?_ | refine EL_val (R_lss_f rfl rfl (by omega)) rfl rfl rfl ?_
      refine EL_nil ?_
      refine E_cond_t rfl ?_
      refine E_skip ?_
      refine thenQ_n ?_
      refine E_seq ?_
      refine E_block ?_
      refine E_seqR ?_
      refine EL_val (R_load rfl K.ag22 (P1.h2.cell rfl)) rfl rfl rfl ?_
      refine EL_val (R_move rfl) rfl rfl rfl ?_
      refine EL_step rfl ?_
      refine EO_call K.bd19 rfl rfl (hpt (hk.no hm1) (34 + 30 * k) 30 (by omega) (by omega) (by omega)) ?_
      rintro _ w2 ⟨⟨u, rfl, hu⟩, hm2⟩
      (obtain ⟨A5, c5, rfl, _, _⟩ := hu.sl; have P2 := P1.no hm2; have hm02 := hm1.trans hm2; have hs2 := hm2.size)
      refine EL_val (R_move rfl) rfl rfl rfl ?_
      refine EL_val (R_extract rfl rfl) rfl rfl rfl ?_
      refine EL_val (R_extract rfl rfl) rfl rfl rfl ?_
      refine EL_val (R_assign rfl) rfl rfl rfl ?_
      refine EL_val (R_assign rfl) rfl rfl rfl ?_
      refine EL_nil ?_
      refine E_seqR ?_
      refine EL_val (R_move rfl) rfl rfl rfl ?_
      refine EL_val (R_move rfl) rfl rfl rfl ?_
      refine EL_step rfl ?_
      refine EO_call K.bd25 rfl rfl (reserve_any (b := someS ks (34 + 30 * k) 30) P2.hm (by omega) (hf.no hm02) (fun h => by have := hb h; omega) (by omega)) ?_
      rintro _ w3 ⟨rfl, ⟨vw3, xs3, hMK3⟩, hm3⟩
      (rw [hq2]; have P3 := P2.mv hm3 hMK3; have hm03 := TM.no_of hm02 (PT.of hm3) (by omega); have hs3 := hm03.size)
      refine EL_val (R_assign rfl) rfl rfl rfl ?_
      refine EL_nil ?_
      refine E_seqR ?_
      refine EL_val (R_move rfl) rfl rfl rfl ?_
      refine EL_val (R_move rfl) rfl rfl rfl ?_
      refine EL_val (R_move rfl) rfl rfl rfl ?_
      refine EL_step rfl ?_
      refine EO_call K.bd26 rfl rfl (fill_ok (a := q) P3.hm (by omega) (by simp only [List.length_append, oneL_length] at hq ⊢; split <;> omega) (base := w1.heap.size) (hm3.own hu (by decide)) (by omega) (part_small hsm _ 30)) ?_
      rintro _ w4 ⟨⟨xs4, hMK4⟩, hm4⟩
      (have P4 := P3.mv hm4 hMK4; rw [hq, hfk] at P4; have hm04 := TM.no_of hm03 (PT.of hm4) (by omega); have hs4 := hm04.size; have ho4 : OI B w4 vu (undP ks fs (n2S ks) k) := hm4.own (hm3.own (ho1.no hm2) (by decide)) (by decide))
      refine EL_nil ?_
      refine E_region ?_
      refine EL_val (R_move rfl) rfl rfl rfl ?_
      refine EL_val (R_move rfl) rfl rfl rfl ?_
      refine EL_step rfl ?_
      refine EO_buildSlice Try.underlying22 K.zr3 K.sz3 rfl rfl rfl (fill_whole rfl (by rw [size_madeCells])) rfl ?_
      intro w5 hn5
      refine EL_step rfl ?_
      refine EO_append rfl rfl Try.underlying22 K.sz3 K.zr3 K.by3 rfl (by decide) (by have := ho4.no hn5.mods; unfold OI at this; exact this) (Src.bk hn5.bk 1 1 [.int .i64 q] rfl (fun j u hj => by rw [Nat.zero_add]; show (#[.int .i64 q] : Array Value)[j]? = some u; simpa using hj)) (by simp [Value.oneCell']) (by simp only [maxLen]; omega) (by omega) (by have := hn5.size; omega) rfl ?_
      intro v6 w6 ho6 hm6 hat6
      refine EL_val (R_assign rfl) rfl rfl rfl ?_
      refine EL_nil ?_
      refine inB_n ?_
      refine thenQ_n ?_
      refine E_region ?_
      refine EL_val (R_move rfl) rfl rfl rfl ?_
      refine EL_val (R_addE (((34 + 30 * (k + 1) : Nat) : Int)) rfl rfl (by omega) (by omega) (by omega)) rfl rfl rfl ?_
      refine EL_val (R_assign rfl) rfl rfl rfl ?_
      refine EL_nil ?_
      refine thenQ_n ?_
      have ho5 := ho4.no hn5.mods
      have ht6 : TM (fun t => t = 3) B w5 w6 := TM.self hm6 ho5 (Nat.le_refl _) rfl
      have hP6 : undP ks fs (n2S ks) (k + 1) = undP ks fs (n2S ks) k ++ [q] := by rw [undP, hq']
      have P5 := P4.no hn5.mods
      refine ⟨rfl, 3 - (k + 1), [(2, ptr b2), (4, ptr b4), (9, ptr b9), (12, ptr m), (15, v6), (16, .int .i64 ((34 + 30 * (k + 1) : Nat) : Int))], by omega, ⟨rfl, rfl, rfl, rfl, rfl, rfl, trivial⟩, k + 1, v6, vw3, xs4, by omega, rfl, rfl, ?_, ?_, ?_⟩
      · exact ⟨ht6.bk P5.h2 (by decide), ht6.bk P5.h4 (by decide), ht6.bk P5.h9 (by decide), ⟨ht6.bk P5.hm.bm (by decide), P5.hm.ge, ht6.own P5.hm.own (by decide), P5.hm.wl.mods ht6 fun g C hg hh => by
          obtain ⟨_, C', t', h1, h2⟩ := hh
          exact absurd ((hg.inj h1).2.trans h2) (by decide)⟩, P5.ge⟩
      · rw [hP6]
        exact OI.appd (ys := [q]) ho6
      · exact TM.no_of (hm04.trans hn5.mods) ht6 (by omega)
    · refine E_seq ?_
      refine E_seqR ?_
      refine EL_val (R_move rfl) rfl rfl rfl ?_
      refine EL_val (R_load rfl K.ag22 (P1.h2.cell rfl)) rfl rfl rfl ?_
      refine EL_val (R_lenSlice rfl Try.underlying22) rfl rfl rfl ?_
      first | refine EL_val (R_lss_t rfl rfl (by omega)) rfl rfl rfl ?_ | refine EL_val (R_lss_f rfl rfl (by omega)) rfl rfl rfl ?_
      refine EL_nil ?_
      refine E_cond_f rfl ?_
      refine E_exit ?_
      refine thenQ_e ?_
      refine thenQ_e ?_
      refine inB_eq rfl ?_
      refine thenQ_n ?_
      exact ⟨rfl, [(2, ptr b2), (4, ptr b4), (9, ptr b9), (12, ptr m), (15, vu)], ⟨rfl, rfl, rfl, rfl, rfl, trivial⟩, k, vu, vw, xs, hk3, by omega, rfl, P1, ho1, hm1⟩
  clear P15 hm015
  rintro e0 w1 ⟨k, vu, vw, xs, hk3, hkl, rfl, P1, ho1, hm1⟩
  have hs1 := hm1.size
  have hW := undW_rest (ks := ks) (fs := fs) (n := n2S ks) hkl (3 - k)
  have hPr := undP_rest (ks := ks) (fs := fs) (n := n2S ks) hkl (3 - k)
  have hcr := cntS_rest hkl (3 - k)
  rw [show k + (3 - k) = 3 from by omega] at hW hPr hcr
  have hul := undP_length ks fs (n2S ks) k
  have hpage : pageC (undP ks fs (n2S ks) 3) = pageC (undP ks fs (n2S ks) k) := by rw [hPr, pageC_zeros (by omega)]
  have hplk := hpl2.und hL2l (ks := ks) k (by omega)
  have hq : (L2 ++ undW ks fs (n2S ks) k).length = n2S ks + cntS ks k := by rw [List.length_append, undW_length, hL2l]
  have husm : Small (undP ks fs (n2S ks) k) := und_small hft k (by omega)
  have hfin : fillS (L2 ++ undW ks fs (n2S ks) k) Bv (undP ks fs (n2S ks) k) = planL ks fs := by
    unfold planL
    rw [hpage, ← hL1, hW, hL2, hBv]
    cases hb : b1S ks with
    | true =>
      have h1 : planB ks fs = fs.getD L1.length 0 := by rw [planB, hb, if_pos rfl, hL1l]
      have h2 : L2 = L1 ++ [(fs.getD L1.length 0, [])] := by rw [hL2, hb, hL1l]; rfl
      rw [h2] at hplk hq
      rw [h1, ← hL1l]
      exact fill_mid hplk hft (by omega) (by omega)
    | false =>
      have h1 : planB ks fs = 0 := by rw [planB, hb]; rfl
      rw [h1, fillS_zero]
      rfl
  obtain ⟨Av, cv, rfl, _, _⟩ := ho1.sl

  refine E_seqR ?_
  refine EL_val (R_move rfl) rfl rfl rfl ?_
  refine EL_val (R_fieldAddr rfl K.fT32_6) rfl rfl rfl ?_
  refine EL_val (R_load rfl K.ag3 (P1.h9.cell rfl)) rfl rfl rfl ?_
  refine EL_val (R_move rfl) rfl rfl rfl ?_
  refine EL_step rfl ?_
  refine EO_call K.bd26 rfl rfl (fill_ok (a := Bv) P1.hm (by omega) (by omega) (base := B) ho1 (by omega) husm) ?_
  rintro _ w2 ⟨⟨xs2, hMK2⟩, hm2⟩
  refine EL_nil ?_
  have P2 := P1.mv hm2 hMK2
  rw [hfin] at P2
  have hm02 : Mods No w w2 := TM.no_of hm1 (PT.of hm2) (by omega)
  refine E_seqD (fun _ => [(5, fun W => Cells W b9 0 (nodeC ks G Bv)), (6, fun W => W.cell? ⟨m, 0 + 1, none⟩ = some vw)]) 8 K.mix rfl ?_
  intro w3 hm3 hh3
  (have P3 := P2.no hm3; have hm03 := hm02.trans hm3)
  refine EA_loadAgg 0 0 [5, 6, 7] rfl rfl K.ag32 rfl K.sz32 (by kernel_rfl) (by kernel_rfl) rfl rfl ?_
  refine EA_pure 1 rfl (fun _ => R_move rfl) (by kernel_rfl) rfl rfl rfl ?_
  refine EA_pure 2 rfl (fun _ => R_nilCheck rfl) (by kernel_rfl) rfl rfl rfl ?_
  refine EA_pure 3 rfl (fun _ => R_fieldAddr rfl K.fT51_1) (by kernel_rfl) rfl rfl rfl ?_
  refine EA_load 4 1 [6, 7] rfl rfl K.ag33 rfl (by kernel_rfl) (by kernel_rfl) rfl rfl ?_
  refine EA_one 5 rfl (by kernel_rfl) rfl ⟨fun _ => whole_cells P3.h9, fun _ => P3.hm.bm.cell rfl, trivial⟩ ?_
  refine EO_storeWhole P3.h4 rfl rfl K.sz32 rfl rfl ?_
  intro w4 hu4
  refine EA_one 6 rfl (by kernel_rfl) rfl ⟨kl rfl, fun _ => hu4.mods.cell (P3.hm.bm.cell rfl) (fun e => by have := P3.hm.bm; simp only at e; rw [e] at this; exact absurd (this.inj P3.h4).2 (by decide)), trivial⟩ ?_
  first | refine EO_val (R_assign rfl) rfl rfl ?_
  skip
  refine EA_pure 7 rfl (fun _ => R_assign rfl) (by kernel_rfl) rfl rfl rfl ?_
  refine EA_done (by kernel_rfl) (Holds.done (by kernel_rfl)) ?_
  refine E_ret ?_
  refine ret_ctt (.inr rfl) rfl rfl rfl rfl K.ag32 (by exact K.sz32) (whole_cells hu4.bk) ?_
  have hM4 := P3.hm.other hu4 P3.h4 (by decide) (by decide) (by decide)
  rw [← hG, ← hBv]
  exact ⟨⟨vw, xs2, rfl, hM4.own, hM4.wl⟩, hm03.trans' hu4.mods fun k hk e => by omega⟩
end Go.Proofs.Ytifmdcjncbbcgaa
