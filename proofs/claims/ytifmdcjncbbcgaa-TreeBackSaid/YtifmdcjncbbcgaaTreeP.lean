/- drydocklaw11: TreeNeeds, TreePlans walked; what an argument of numbers is. -/
import Derived.Test.YtifmdcjncbbcgaaTreeO
import Derived.ChangeOld
set_option linter.unusedVariables false
set_option linter.unusedSimpArgs false
set_option maxRecDepth 100000
namespace Go.Proofs.Ytifmdcjncbbcgaa
open Go.EW Go.RowKit

/-- an argument: a slice of numbers -/
structure Arg (w : World) (A : Option Addr) (ks : List Int) (c : Nat) : Prop where
  is : IS w A ks
  le : ks.length ≤ c
  len : ks.length ≤ 9223372036854775807
  spot : ∀ a, A = some a → a.spot = none
  lt : ∀ g i, A = some ⟨g, i, none⟩ → g < w.heap.size
theorem needs_walk {w : World} {A : Option Addr} {ks : List Int} {c : Nat} (h : Arg w A ks c) : Ret Try.prog 3 [.slice A ks.length c] w fun v w' => v = .bool true ∧ Mods No w w' := by
  have hnd := need_ok (c := c) h.is h.le h.len
  have hrp := fun {w' : World} (hm : Mods No w w') => rpointers_ok (c := c) (h.is.no hm) h.len
  cases hp : ptrsB ks with
  | false =>
    rw [hp] at hnd hrp
    simp only [Bool.false_eq_true, if_false] at hnd
    refine Ret.enter Try.func3 rfl Try.ntmps3 rfl ?_
    simp only [argEnv, Nat.reduceAdd]
    refine E_seqR ?_
    refine EL_val (R_assign rfl) rfl rfl rfl ?_
    refine EL_nil ?_
    refine E_seqR ?_
    refine EL_val (R_move rfl) rfl rfl rfl ?_
    refine EL_step rfl ?_
    refine EO_call K.bd7 rfl rfl (hnd) ?_
    rintro _ w1 ⟨rfl, hm1⟩
    refine EL_val (R_move rfl) rfl rfl rfl ?_
    refine EL_val (R_extract rfl rfl) rfl rfl rfl ?_
    refine EL_val (R_extract rfl rfl) rfl rfl rfl ?_
    refine EL_val (R_assign rfl) rfl rfl rfl ?_
    refine EL_val (R_assign rfl) rfl rfl rfl ?_
    refine EL_nil ?_
    refine E_seq ?_
    refine E_seqR ?_
    refine EL_val (R_move rfl) rfl rfl rfl ?_
    refine EL_step rfl ?_
    refine EO_call K.bd8 rfl rfl (hrp hm1) ?_
    rintro _ w2 ⟨rfl, hm2⟩
    refine EL_val (R_not rfl) rfl rfl rfl ?_
    refine EL_nil ?_
    refine E_cond_t rfl ?_
    refine E_seqR ?_
    refine EL_step rfl ?_
    refine EO_call K.bd9 rfl rfl (awake_ok) ?_
    rintro _ w3 ⟨rfl, hm3⟩
    refine EL_val (R_move rfl) rfl rfl rfl ?_
    first | refine EL_val (R_move rfl) rfl rfl rfl ?_ | refine EL_not rfl rfl rfl ?_
    first | refine EL_val (R_eql_t rfl rfl (by omega)) rfl rfl rfl ?_ | refine EL_val (R_eql_f rfl rfl (by omega)) rfl rfl rfl ?_ | refine EL_not rfl rfl rfl ?_
    first | refine EL_val (R_pick_t rfl rfl) rfl rfl rfl ?_ | refine EL_val (R_pick_f rfl rfl) rfl rfl rfl ?_
    refine EL_val (R_move rfl) rfl rfl rfl ?_
    first | refine EL_val (R_move rfl) rfl rfl rfl ?_ | refine EL_not rfl rfl rfl ?_
    first | refine EL_val (R_eql_t rfl rfl (by omega)) rfl rfl rfl ?_ | refine EL_val (R_eql_f rfl rfl (by omega)) rfl rfl rfl ?_ | refine EL_not rfl rfl rfl ?_
    first | refine EL_val (R_pick_t rfl rfl) rfl rfl rfl ?_ | refine EL_val (R_pick_f rfl rfl) rfl rfl rfl ?_
    refine EL_val (R_assign rfl) rfl rfl rfl ?_
    refine EL_nil ?_
    refine E_ret ?_
    refine thenQ_r ?_
    refine ret1 (.inr rfl) rfl rfl ?_
    exact ⟨rfl, (hm1.trans hm2).trans hm3⟩
  | true =>
    rw [hp] at hnd hrp
    simp only [if_true] at hnd
    have h96 : ks.length ≤ 96 := by unfold ptrsB at hp; simp at hp; exact hp.2
    refine Ret.enter Try.func3 rfl Try.ntmps3 rfl ?_
    simp only [argEnv, Nat.reduceAdd]
    refine E_seqR ?_
    refine EL_val (R_assign rfl) rfl rfl rfl ?_
    refine EL_nil ?_
    refine E_seqR ?_
    refine EL_val (R_move rfl) rfl rfl rfl ?_
    refine EL_step rfl ?_
    refine EO_call K.bd7 rfl rfl (hnd) ?_
    rintro _ w1 ⟨rfl, hm1⟩
    refine EL_val (R_move rfl) rfl rfl rfl ?_
    refine EL_val (R_extract rfl rfl) rfl rfl rfl ?_
    refine EL_val (R_extract rfl rfl) rfl rfl rfl ?_
    refine EL_val (R_assign rfl) rfl rfl rfl ?_
    refine EL_val (R_assign rfl) rfl rfl rfl ?_
    refine EL_nil ?_
    refine E_seq ?_
    refine E_seqR ?_
    refine EL_val (R_move rfl) rfl rfl rfl ?_
    refine EL_step rfl ?_
    refine EO_call K.bd8 rfl rfl (hrp hm1) ?_
    rintro _ w2 ⟨rfl, hm2⟩
    refine EL_val (R_not rfl) rfl rfl rfl ?_
    refine EL_nil ?_
    refine E_cond_f rfl ?_
    refine E_skip ?_
    refine thenQ_n ?_
    refine E_seqR ?_
    refine EL_step rfl ?_
    refine EO_call K.bd9 rfl rfl (awake_ok) ?_
    rintro _ w3 ⟨rfl, hm3⟩
    refine EL_val (R_move rfl) rfl rfl rfl ?_
    first | refine EL_val (R_move rfl) rfl rfl rfl ?_ | refine EL_not rfl rfl rfl ?_
    first | refine EL_val (R_eql_t rfl rfl (by omega)) rfl rfl rfl ?_ | refine EL_val (R_eql_f rfl rfl (by omega)) rfl rfl rfl ?_ | refine EL_not rfl rfl rfl ?_
    first | refine EL_val (R_pick_t rfl rfl) rfl rfl rfl ?_ | refine EL_val (R_pick_f rfl rfl) rfl rfl rfl ?_
    refine EL_val (R_move rfl) rfl rfl rfl ?_
    first | refine EL_val (R_move rfl) rfl rfl rfl ?_ | refine EL_not rfl rfl rfl ?_
    first | refine EL_val (R_move rfl) rfl rfl rfl ?_ | refine EL_not rfl rfl rfl ?_
    refine EL_step rfl ?_
    refine EO_call K.bd10 rfl rfl (rneed_ok (h.is.no ((hm1.trans hm2).trans hm3)) h96) ?_
    rintro _ w4 ⟨rfl, hm4⟩
    first | refine EL_val (R_eql_t rfl rfl (by omega)) rfl rfl rfl ?_ | refine EL_val (R_eql_f rfl rfl (by omega)) rfl rfl rfl ?_ | refine EL_not rfl rfl rfl ?_
    first | refine EL_val (R_pick_t rfl rfl) rfl rfl rfl ?_ | refine EL_val (R_pick_f rfl rfl) rfl rfl rfl ?_
    refine EL_val (R_assign rfl) rfl rfl rfl ?_
    refine EL_nil ?_
    refine E_ret ?_
    refine ret1 (.inr rfl) rfl rfl ?_
    exact ⟨rfl, ((hm1.trans hm2).trans hm3).trans hm4⟩
theorem plans_walk {w : World} {A A' : Option Addr} {ks fs : List Int} {c c' : Nat} (h : Arg w A ks c) (h' : Arg w A' fs c') : Ret Try.prog 4 [.slice A ks.length c, .slice A' fs.length c'] w fun v w' => v = .bool true ∧ Mods No w w' := by
  by_cases he : planE ks fs = 0
  · have hpl := plan_ok (c := c) (c' := c') h.is h.lt h.le h.len h'.spot h'.is h'.lt h'.le h'.len he
    have hrp := fun {w' : World} (hm : Mods No w w') => rplan_ok (c := c) (c' := c') (h.is.no hm) h.le h.len h'.spot (h'.is.no hm) h'.le h'.len he
    have hll : (planL ks fs).length ≤ 9223372036854775807 := by rw [(planned_of he).length]; have := need_le ks; omega
    obtain ⟨L, hL⟩ : ∃ L, L = planL ks fs := ⟨_, rfl⟩
    obtain ⟨G, hG⟩ : ∃ G, G = planG ks fs := ⟨_, rfl⟩
    obtain ⟨Bv, hBv⟩ : ∃ Bv, Bv = planB ks fs := ⟨_, rfl⟩
    rw [← hL, ← hG, ← hBv] at hpl
    rw [← hL] at hll
    simp only [← hL, ← hG, ← hBv] at hrp
    refine Ret.enter Try.func4 rfl Try.ntmps4 rfl ?_
    simp only [argEnv, Nat.reduceAdd]
    refine E_seqR ?_
    refine EL_val (R_assign rfl) rfl rfl rfl ?_
    refine EL_nil ?_
    refine E_seqR ?_
    refine EL_val (R_move rfl) rfl rfl rfl ?_
    refine EL_val (R_move rfl) rfl rfl rfl ?_
    refine EL_step rfl ?_
    refine EO_call K.bd11 rfl rfl (hpl) ?_
    rintro _ w1 ⟨⟨va, xa, rfl, how1, hwl1⟩, hm1⟩
    (obtain ⟨Aa, ca, rfl, _, _⟩ := own_sl how1)
    refine EL_val (R_move rfl) rfl rfl rfl ?_
    refine EL_val (R_extract rfl rfl) rfl rfl rfl ?_
    refine EL_val (R_extract rfl rfl) rfl rfl rfl ?_
    refine EL_val (R_extract rfl rfl) rfl rfl rfl ?_
    refine EL_step rfl ?_
    refine EO_alloc K.zr32 rfl ?_
    intro w2 hn2
    refine EL_step rfl ?_
    refine EO_storeWhole hn2.bk rfl rfl K.sz32 rfl rfl ?_
    intro w3 hu3
    (have hm03 : Mods No w w3 := (hm1.trans hn2.mods).trans' hu3.mods (fun k hk e => by have := hm1.size; omega))
    refine EL_val (R_assign rfl) rfl rfl rfl ?_
    refine EL_val (R_assign rfl) rfl rfl rfl ?_
    refine EL_nil ?_
    refine E_seqR ?_
    refine EL_val (R_move rfl) rfl rfl rfl ?_
    refine EL_val (R_move rfl) rfl rfl rfl ?_
    refine EL_step rfl ?_
    refine EO_call K.bd12 rfl rfl (hrp hm03) ?_
    rintro _ w4 ⟨⟨vb, xb, rfl, how4, hwl4⟩, hm4⟩
    (obtain ⟨Ab, cb, rfl, _, _⟩ := own_sl how4)
    refine EL_val (R_move rfl) rfl rfl rfl ?_
    refine EL_val (R_extract rfl rfl) rfl rfl rfl ?_
    refine EL_val (R_extract rfl rfl) rfl rfl rfl ?_
    refine EL_val (R_extract rfl rfl) rfl rfl rfl ?_
    refine EL_step rfl ?_
    refine EO_alloc K.zr32 rfl ?_
    intro w5 hn5
    refine EL_step rfl ?_
    refine EO_storeWhole hn5.bk rfl rfl K.sz32 rfl rfl ?_
    intro w6 hu6
    refine EL_val (R_assign rfl) rfl rfl rfl ?_
    refine EL_val (R_assign rfl) rfl rfl rfl ?_
    refine EL_nil ?_
    have hw3 := own_upd (hn2.mods.own how1 fun _ _ h => h) hu3 hn2.bk (by decide)
    have hl3 := (hwl1.mods hn2.mods fun _ _ _ h => h).mods hu3.mods fun k C hk e => by subst e; exact absurd (hk.inj hn2.bk).2 (by decide)
    have hw6 := own_upd (hn5.mods.own (hm4.own hw3 fun _ _ h => h) fun _ _ h => h) hu6 hn5.bk (by decide)
    have hl6 := ((hl3.mods hm4 fun _ _ _ h => h).mods hn5.mods fun _ _ _ h => h).mods hu6.mods fun k C hk e => by subst e; exact absurd (hk.inj hn5.bk).2 (by decide)
    have hw6' := own_upd (hn5.mods.own how4 fun _ _ h => h) hu6 hn5.bk (by decide)
    have hl6' := (hwl4.mods hn5.mods fun _ _ _ h => h).mods hu6.mods fun k C hk e => by subst e; exact absurd (hk.inj hn5.bk).2 (by decide)
    have hb3 := hn5.mods.bk' (hm4.bk' hu3.bk)
    have hb36 := hu6.mods.bk hb3 (fun e => by have := hb3.lt; have := hu3.bk.lt; have := hm4.size; omega)
    have hm06 : Mods No w w6 := ((hm03.trans hm4).trans hn5.mods).trans' hu6.mods fun k hk e => by have := hm03.size; have := hm4.size; omega
    have hsm := fun {w' : World} => same_ok (w := w') (k := 0) (f := 1) (l := 0) (z := 0) (a := ks.getD (0 + 0) 0) (b := ks.getD (0 + 1) 0) (c := ks.getD (0 + 2) 0) (d := ks.getD (0 + 3) 0) (s := G) (u := Bv) (ch := 0)
    have hwr := fun {w' : World} (hm : Mods No w6 w') => writes_ok (c := ca) (c' := cb) ((hl6.rw hw6).no hm) ((hl6'.rw hw6').no hm) hll
    refine E_seqR ?_
    refine EL_step rfl ?_
    refine EO_call K.bd9 rfl rfl (awake_ok) ?_
    rintro _ w7 ⟨rfl, hm7⟩
    refine EL_val (R_move rfl) rfl rfl rfl ?_
    first | refine EL_val (R_move rfl) rfl rfl rfl ?_ | refine EL_not rfl rfl rfl ?_
    first | refine EL_val (R_move rfl) rfl rfl rfl ?_ | refine EL_not rfl rfl rfl ?_
    first | refine EL_val (R_eql_t rfl rfl (by omega)) rfl rfl rfl ?_ | refine EL_val (R_eql_f rfl rfl (by omega)) rfl rfl rfl ?_ | refine EL_not rfl rfl rfl ?_
    first | refine EL_val (R_pick_t rfl rfl) rfl rfl rfl ?_ | refine EL_val (R_pick_f rfl rfl) rfl rfl rfl ?_
    refine EL_val (R_move rfl) rfl rfl rfl ?_
    first | refine EL_val (R_loadAgg rfl K.ag32 (whole_cells (hm7.bk' hb36)) (K.sz32)) rfl rfl rfl ?_ | refine EL_not rfl rfl rfl ?_
    first | refine EL_val (R_loadAgg rfl K.ag32 (whole_cells (hm7.bk' hu6.bk)) (K.sz32)) rfl rfl rfl ?_ | refine EL_not rfl rfl rfl ?_
    refine EL_step rfl ?_
    refine EO_call K.bd13 rfl rfl (hsm) ?_
    rintro _ w8 ⟨rfl, hm8⟩
    first | refine EL_val (R_pick_t rfl rfl) rfl rfl rfl ?_ | refine EL_val (R_pick_f rfl rfl) rfl rfl rfl ?_
    refine EL_val (R_move rfl) rfl rfl rfl ?_
    first | refine EL_val (R_move rfl) rfl rfl rfl ?_ | refine EL_not rfl rfl rfl ?_
    first | refine EL_val (R_move rfl) rfl rfl rfl ?_ | refine EL_not rfl rfl rfl ?_
    refine EL_step rfl ?_
    refine EO_call K.bd14 rfl rfl (hwr (hm7.trans hm8)) ?_
    rintro _ w9 ⟨rfl, hm9⟩
    first | refine EL_val (R_pick_t rfl rfl) rfl rfl rfl ?_ | refine EL_val (R_pick_f rfl rfl) rfl rfl rfl ?_
    refine EL_val (R_assign rfl) rfl rfl rfl ?_
    refine EL_nil ?_
    refine E_ret ?_
    refine ret1 (.inr rfl) rfl rfl ?_
    exact ⟨rfl, ((hm06.trans hm7).trans hm8).trans hm9⟩
  · have hpl := plan_err (c := c) (c' := c') h.is h.le h.len h'.spot h'.is h'.le h'.len he
    have hrp := fun {w' : World} (hm : Mods No w w') => rplan_err (c := c) (c' := c') (h.is.no hm) h.le h.len h'.spot (h'.is.no hm) h'.le h'.len he
    obtain ⟨E, hE⟩ : ∃ E, E = planE ks fs := ⟨_, rfl⟩
    rw [← hE] at hpl
    simp only [← hE] at hrp
    refine Ret.enter Try.func4 rfl Try.ntmps4 rfl ?_
    simp only [argEnv, Nat.reduceAdd]
    refine E_seqR ?_
    refine EL_val (R_assign rfl) rfl rfl rfl ?_
    refine EL_nil ?_
    refine E_seqR ?_
    refine EL_val (R_move rfl) rfl rfl rfl ?_
    refine EL_val (R_move rfl) rfl rfl rfl ?_
    refine EL_step rfl ?_
    refine EO_call K.bd11 rfl rfl (hpl) ?_
    rintro _ w1 ⟨rfl, hm1⟩
    refine EL_val (R_move rfl) rfl rfl rfl ?_
    refine EL_val (R_extract rfl rfl) rfl rfl rfl ?_
    refine EL_val (R_extract rfl rfl) rfl rfl rfl ?_
    refine EL_val (R_extract rfl rfl) rfl rfl rfl ?_
    refine EL_step rfl ?_
    refine EO_alloc K.zr32 rfl ?_
    intro w2 hn2
    refine EL_step rfl ?_
    refine EO_storeWhole hn2.bk rfl rfl K.sz32 rfl rfl ?_
    intro w3 hu3
    (have hm03 : Mods No w w3 := (hm1.trans hn2.mods).trans' hu3.mods (fun k hk e => by have := hm1.size; omega))
    refine EL_val (R_assign rfl) rfl rfl rfl ?_
    refine EL_val (R_assign rfl) rfl rfl rfl ?_
    refine EL_nil ?_
    refine E_seqR ?_
    refine EL_val (R_move rfl) rfl rfl rfl ?_
    refine EL_val (R_move rfl) rfl rfl rfl ?_
    refine EL_step rfl ?_
    refine EO_call K.bd12 rfl rfl (hrp hm03) ?_
    rintro _ w4 ⟨rfl, hm4⟩
    refine EL_val (R_move rfl) rfl rfl rfl ?_
    refine EL_val (R_extract rfl rfl) rfl rfl rfl ?_
    refine EL_val (R_extract rfl rfl) rfl rfl rfl ?_
    refine EL_val (R_extract rfl rfl) rfl rfl rfl ?_
    refine EL_step rfl ?_
    refine EO_alloc K.zr32 rfl ?_
    intro w5 hn5
    refine EL_step rfl ?_
    refine EO_storeWhole hn5.bk rfl rfl K.sz32 rfl rfl ?_
    intro w6 hu6
    refine EL_val (R_assign rfl) rfl rfl rfl ?_
    refine EL_val (R_assign rfl) rfl rfl rfl ?_
    refine EL_nil ?_
    have hb3 := hn5.mods.bk' (hm4.bk' hu3.bk)
    have hb36 := hu6.mods.bk hb3 (fun e => by have := hb3.lt; have := hu3.bk.lt; have := hm4.size; omega)
    have hm06 : Mods No w w6 := ((hm03.trans hm4).trans hn5.mods).trans' hu6.mods fun k hk e => by have := hm03.size; have := hm4.size; omega
    have hsm := fun {w' : World} => same_ok (w := w') (k := 0) (f := 0) (l := 0) (z := 0) (a := 0) (b := 0) (c := 0) (d := 0) (s := 0) (u := 0) (ch := 0)
    have hwr := fun {w' : World} => writes_ok (w := w') (B := 0) (B' := 0) (A := none) (A' := none) (L := []) (c := 0) (c' := 0) (fun h => absurd h (by simp)) (fun h => absurd h (by simp)) (by simp)
    refine E_seqR ?_
    refine EL_step rfl ?_
    refine EO_call K.bd9 rfl rfl (awake_ok) ?_
    rintro _ w7 ⟨rfl, hm7⟩
    refine EL_val (R_move rfl) rfl rfl rfl ?_
    first | refine EL_val (R_move rfl) rfl rfl rfl ?_ | refine EL_not rfl rfl rfl ?_
    first | refine EL_val (R_move rfl) rfl rfl rfl ?_ | refine EL_not rfl rfl rfl ?_
    first | refine EL_val (R_eql_t rfl rfl (by omega)) rfl rfl rfl ?_ | refine EL_val (R_eql_f rfl rfl (by omega)) rfl rfl rfl ?_ | refine EL_not rfl rfl rfl ?_
    first | refine EL_val (R_pick_t rfl rfl) rfl rfl rfl ?_ | refine EL_val (R_pick_f rfl rfl) rfl rfl rfl ?_
    refine EL_val (R_move rfl) rfl rfl rfl ?_
    first | refine EL_val (R_loadAgg rfl K.ag32 (whole_cells (hm7.bk' hb36)) (K.sz32)) rfl rfl rfl ?_ | refine EL_not rfl rfl rfl ?_
    first | refine EL_val (R_loadAgg rfl K.ag32 (whole_cells (hm7.bk' hu6.bk)) (K.sz32)) rfl rfl rfl ?_ | refine EL_not rfl rfl rfl ?_
    refine EL_step rfl ?_
    refine EO_call K.bd13 rfl rfl (hsm) ?_
    rintro _ w8 ⟨rfl, hm8⟩
    first | refine EL_val (R_pick_t rfl rfl) rfl rfl rfl ?_ | refine EL_val (R_pick_f rfl rfl) rfl rfl rfl ?_
    refine EL_val (R_move rfl) rfl rfl rfl ?_
    first | refine EL_val (R_move rfl) rfl rfl rfl ?_ | refine EL_not rfl rfl rfl ?_
    first | refine EL_val (R_move rfl) rfl rfl rfl ?_ | refine EL_not rfl rfl rfl ?_
    refine EL_step rfl ?_
    refine EO_call K.bd14 rfl rfl (hwr) ?_
    rintro _ w9 ⟨rfl, hm9⟩
    first | refine EL_val (R_pick_t rfl rfl) rfl rfl rfl ?_ | refine EL_val (R_pick_f rfl rfl) rfl rfl rfl ?_
    refine EL_val (R_assign rfl) rfl rfl rfl ?_
    refine EL_nil ?_
    refine E_ret ?_
    refine ret1 (.inr rfl) rfl rfl ?_
    exact ⟨rfl, ((hm06.trans hm7).trans hm8).trans hm9⟩
end Go.Proofs.Ytifmdcjncbbcgaa
