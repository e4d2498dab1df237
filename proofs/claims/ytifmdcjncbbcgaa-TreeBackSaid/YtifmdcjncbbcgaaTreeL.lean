/- Blocks found; a page read (package tree). -/
import Derived.Test.YtifmdcjncbbcgaaTreeK
set_option linter.unusedVariables false
set_option linter.unusedSimpArgs false
set_option maxRecDepth 100000
namespace Go.Proofs.Ytifmdcjncbbcgaa
open Go.EW Go.RowKit

/-! ### what a page holds -/
def P30 (l : List Int) : List Int := l ++ List.replicate (30 - l.length) 0
theorem P30_length {l : List Int} (h : l.length ≤ 30) : (P30 l).length = 30 := by simp [P30]; omega
theorem P30_small {l : List Int} (h : Small l) : Small (P30 l) := fun x hx => by
  rcases List.mem_append.1 hx with hx | hx
  · exact h x hx
  · rw [List.eq_of_mem_replicate hx]; omega
theorem pageC_form {l : List Int} (h : l.length ≤ 30) : pageC l = flatB (P30 l) ++ leB (sumS (flatB (P30 l))).toNat 4 := by
  have e : pageC l = pageC (P30 l) := (pageC_zeros (by omega)).symm
  rw [e]
  unfold pageC sealR
  have : (flatB (P30 l)).length = 60 := by rw [flatB_length, P30_length h]
  rw [this]
  simp [zerosB]
theorem pageC_length {l : List Int} (h : l.length ≤ 30) : (pageC l).length = 64 := by
  rw [pageC_form h, List.length_append, flatB_length, P30_length h, leB_length]
theorem pageC_sealed {l : List Int} (h : l.length ≤ 30) : sealedS (pageC l) = true := by
  have h64 := pageC_length h
  have hf : (flatB (P30 l)).length = 60 := by rw [flatB_length, P30_length h]
  have hr := sumS_range (flatB (P30 l))
  unfold sealedS
  rw [decide_eq_true h64, Bool.true_and, decide_eq_true_iff]
  rw [pageC_form h, List.drop_append, List.drop_eq_nil_of_le (by omega), hf, List.nil_append, Nat.sub_self, List.drop_zero, List.take_append_of_le_length (by omega), List.take_of_length_le (by omega), leN_leB]
  have : (sumS (flatB (P30 l))).toNat % 2 ^ (8 * 4) = (sumS (flatB (P30 l))).toNat := Nat.mod_eq_of_lt (by omega)
  rw [this]
  omega
theorem flatB_at : ∀ {q : List Int} {i : Nat} (h : i < q.length), ((flatB q).drop (i * 2)).take 2 = leB q[i].toNat 2
  | a :: r, 0, _ => by
    show (leB a.toNat 2 ++ flatB r).take 2 = _
    rw [List.take_append_of_le_length (by rw [leB_length]; omega), List.take_of_length_le (by rw [leB_length]; omega)]
    rfl
  | a :: r, i + 1, h => by
    show ((leB a.toNat 2 ++ flatB r).drop ((i + 1) * 2)).take 2 = _
    rw [show (i + 1) * 2 = (leB a.toNat 2).length + i * 2 from by rw [leB_length]; omega, List.drop_append, List.drop_eq_nil_of_le (by omega), List.nil_append, Nat.add_sub_cancel_left]
    exact flatB_at (by simpa using h)
theorem nums_pageC {l : List Int} (h : l.length ≤ 30) (hx : Small l) : numsS (pageC l) 0 2 30 = P30 l := by
  have hpl := P30_length h
  have hps := P30_small hx
  apply List.ext_getElem
  · rw [numsS_length, hpl]
  · intro i h1 h2
    rw [numsS_length] at h1
    have hf : (flatB (P30 l)).length = 60 := by rw [flatB_length, hpl]
    have hxi := hps _ (List.getElem_mem h2)
    simp only [numsS, List.getElem_map, List.getElem_range, Nat.zero_add]
    rw [pageC_form h, List.drop_append_of_le_length (by omega), List.take_append_of_le_length (by simp; omega), flatB_at (by omega), leN_leB]
    rw [Nat.mod_eq_of_lt (by omega)]
    omega
/-! ### writes that are read -/
def RW (w : World) (B : Nat) (A : Option Addr) (L : List (Int × List UInt8)) : Prop :=
  0 < L.length → ∃ g o, A = some ⟨g, o, none⟩ ∧ g < B ∧ ∀ k (hk : k < L.length), ∃ Ay cy, Cells w g (o + k * 2) #[.int .i64 L[k].1, .slice Ay L[k].2.length cy] ∧ L[k].2.length ≤ cy ∧ BS w Ay L[k].2 ∧ ∀ g' i', Ay = some ⟨g', i', none⟩ → 0 < L[k].2.length → g' < B
theorem BS.no' {w w' : World} {A : Option Addr} {l : List UInt8} (h : BS w A l) (hm : Mods No w w') : BS w' A l := Src.mods h hm fun _ _ _ h => h
theorem RW.mods {w w' : World} {B : Nat} {S : Nat → Prop} {A : Option Addr} {L : List (Int × List UInt8)} (h : RW w B A L) (hm : Mods S w w') (hS : ∀ i, i < B → ¬ S i) : RW w' B A L := fun h0 => by
  obtain ⟨g, o, hA, hg, hc⟩ := h h0
  refine ⟨g, o, hA, hg, fun k hk => ?_⟩
  obtain ⟨Ay, cy, h1, h2, h3, h4⟩ := hc k hk
  refine ⟨Ay, cy, hm.cells h1 (hS g hg), h2, ⟨h3.1, fun h0' => ?_⟩, h4⟩
  obtain ⟨g', i', hA', hcc⟩ := h3.2 h0'
  exact ⟨g', i', hA', hm.cells hcc (hS g' (h4 g' i' hA' h0'))⟩
theorem RW.no {w w' : World} {B : Nat} {A : Option Addr} {L : List (Int × List UInt8)} (h : RW w B A L) (hm : Mods No w w') : RW w' B A L := h.mods hm fun _ _ h => h
theorem isat_ok {w : World} {b : Nat} {a x : Int} {y : Value} (hb : Bk w b #[.int .i64 x] 3) :
    Ret Try.prog 54 [.agg #[.int .i64 a, y], ptr b] w fun v w' => v = .bool (decide (a = x)) ∧ Mods No w w' := by
  refine Ret.enter Try.func54 rfl Try.ntmps54 rfl ?_
  simp only [argEnv, Nat.reduceAdd]
  refine E_seqR ?_
  refine EL_step rfl ?_
  refine EO_box rfl rfl ?_
  intro w1 hn1
  refine EL_val (R_assign rfl) rfl rfl rfl ?_
  refine EL_nil ?_
  refine E_seqR ?_
  refine EL_val (R_fieldAddr rfl K.fT59_0) rfl rfl rfl ?_
  refine EL_val (R_load rfl K.ag3 (hn1.bk.cell rfl)) rfl rfl rfl ?_
  refine EL_val (R_load rfl K.ag3 ((hn1.mods.bk' hb).cell rfl)) rfl rfl rfl ?_
  refine EL_val (R_eql rfl rfl) rfl rfl rfl ?_
  refine EL_val (R_assign rfl) rfl rfl rfl ?_
  refine EL_nil ?_
  refine E_ret ?_
  refine ret1 (.inr rfl) rfl rfl ?_
  exact ⟨rfl, hn1.mods⟩
theorem windex_ok {w : World} {B : Nat} {A : Option Addr} {L : List (Int × List UInt8)} {c b : Nat} {x : Int} (hk : RW w B A L) (hl : L.length ≤ 9223372036854775807) (hb : Bk w b #[.int .i64 x] 3) :
    Ret Try.prog 53 [.slice A L.length c, .func (.func 54) #[] #[ptr b]] w fun v w' => (∃ z, v = .int .i64 z ∧ AtFirst (fun p => decide (p.1 = x)) L z) ∧ Mods No w w' := by
  refine Ret.enter Try.func53 rfl Try.ntmps53 rfl ?_
  simp only [argEnv, Nat.reduceAdd]
  refine E_seqR ?_
  refine EL_val (R_assign rfl) rfl rfl rfl ?_
  refine EL_nil ?_
  refine E_seq ?_
  refine E_seqR ?_
  refine EL_val (R_move rfl) rfl rfl rfl ?_
  refine EL_val (R_lenSlice rfl Try.underlying33) rfl rfl rfl ?_
  refine EL_val (R_move rfl) rfl rfl rfl ?_
  refine EL_nil ?_
  refine E_block ?_
  refine E_loop (fun m' e' w' => ∃ i, i ≤ L.length ∧ m' = L.length - i ∧ e' = [(0, .slice (A) L.length c), (1, .func (.func 54) #[] #[ptr b]), (7, .int .i64 (L.length : Int)), (8, .int .i64 ((i : Nat) : Int))] ∧ Mods No w w' ∧ ∀ (j : Nat) (h : j < L.length), j < i → ¬ L[j].1 = x) L.length [(0, .slice (A) L.length c), (1, .func (.func 54) #[] #[ptr b]), (7, .int .i64 (L.length : Int)), (8, .int .i64 ((0 : Nat) : Int))] ⟨rfl, rfl, rfl, rfl, trivial⟩ ⟨0, by omega, by omega, rfl, Mods.refl _ _, fun j _ h => absurd h (by omega)⟩ ?_
  rintro m' e w2 ⟨i, hi, rfl, rfl, hm, hall⟩
  by_cases hlt : i < L.length
  · obtain ⟨g, o, rfl, _, hcs⟩ := (hk.no hm) (by omega)
    obtain ⟨Ay, cy, hcell, _, _, _⟩ := hcs i hlt
    have hia := isat_ok (a := L[i].1) (y := .slice Ay L[i].2.length cy) (hm.bk' hb)
    by_cases hp : L[i].1 = x
    · rw [decide_eq_true hp] at hia

      refine E_seqR ?_
      first | refine EL_val (R_lss_t rfl rfl (by omega)) rfl rfl rfl ?_ | refine EL_val (R_lss_f rfl rfl (by omega)) rfl rfl rfl ?_
      refine EL_nil ?_
      refine E_seq ?_
      refine E_cond_t rfl ?_
      refine E_skip ?_
      refine thenQ_n ?_
      refine E_seq ?_
      refine E_block ?_
      refine E_seqR ?_
      refine EL_val (R_move rfl) rfl rfl rfl ?_
      refine EL_val (R_assign rfl) rfl rfl rfl ?_
      refine EL_nil ?_
      refine E_seqR ?_
      refine EL_val (R_move rfl) rfl rfl rfl ?_
      refine EL_val (R_move rfl) rfl rfl rfl ?_
      refine EL_val (R_move rfl) rfl rfl rfl ?_
      refine EL_val (R_indexAddr rfl rfl Try.underlying33 K.sz59 (m := i) rfl hlt) rfl rfl rfl ?_
      refine EL_val (R_loadAgg rfl K.ag59 (hcell) (K.sz59)) rfl rfl rfl ?_
      refine EL_step rfl ?_
      refine EO_callv (caps := [ptr b]) K.bd54 rfl rfl rfl hia ?_
      rintro _ w3 ⟨rfl, hm3⟩
      refine EL_nil ?_
      refine E_cond_t rfl ?_
      refine E_seqR ?_
      refine EL_val (R_move rfl) rfl rfl rfl ?_
      refine EL_val (R_assign rfl) rfl rfl rfl ?_
      refine EL_nil ?_
      refine E_ret ?_
      refine inB_r (thenQ_r (thenQ_r (inB_r (thenQ_r ?_))))
      refine ret1 (.inr rfl) rfl rfl ?_
      exact ⟨⟨_, rfl, .inl ⟨i, hlt, rfl, decide_eq_true hp, fun j hj => decide_eq_false (hall j (by omega) hj)⟩⟩, hm.trans hm3⟩
    · rw [decide_eq_false hp] at hia

      refine E_seqR ?_
      first | refine EL_val (R_lss_t rfl rfl (by omega)) rfl rfl rfl ?_ | refine EL_val (R_lss_f rfl rfl (by omega)) rfl rfl rfl ?_
      refine EL_nil ?_
      refine E_seq ?_
      refine E_cond_t rfl ?_
      refine E_skip ?_
      refine thenQ_n ?_
      refine E_seq ?_
      refine E_block ?_
      refine E_seqR ?_
      refine EL_val (R_move rfl) rfl rfl rfl ?_
      refine EL_val (R_assign rfl) rfl rfl rfl ?_
      refine EL_nil ?_
      refine E_seqR ?_
      refine EL_val (R_move rfl) rfl rfl rfl ?_
      refine EL_val (R_move rfl) rfl rfl rfl ?_
      refine EL_val (R_move rfl) rfl rfl rfl ?_
      refine EL_val (R_indexAddr rfl rfl Try.underlying33 K.sz59 (m := i) rfl hlt) rfl rfl rfl ?_
      refine EL_val (R_loadAgg rfl K.ag59 (hcell) (K.sz59)) rfl rfl rfl ?_
      refine EL_step rfl ?_
      refine EO_callv (caps := [ptr b]) K.bd54 rfl rfl rfl hia ?_
      rintro _ w3 ⟨rfl, hm3⟩
      refine EL_nil ?_
      refine E_cond_f rfl ?_
      refine E_skip ?_
      refine inB_n ?_
      refine thenQ_n ?_
      refine E_region ?_
      first | refine EL_val (R_inc rfl (by omega)) rfl rfl rfl ?_ | refine EL_val (R_add_in rfl rfl (by omega) (by omega)) rfl rfl rfl ?_
      refine EL_val (R_move rfl) rfl rfl rfl ?_
      refine EL_nil ?_
      refine thenQ_n ?_
      refine ⟨rfl, L.length - (i + 1), [(0, .slice (some ⟨g, o, none⟩) L.length c), (1, .func (.func 54) #[] #[ptr b]), (7, .int .i64 (L.length : Int)), (8, .int .i64 ((i + 1 : Nat) : Int))], by omega, ⟨rfl, rfl, rfl, rfl, trivial⟩, i + 1, by omega, rfl, rfl, hm.trans hm3, fun j h hj => ?_⟩
      by_cases he : j = i
      · subst he; exact hp
      · exact hall j h (by omega)
  · skip
    refine E_seqR ?_
    first | refine EL_val (R_lss_t rfl rfl (by omega)) rfl rfl rfl ?_ | refine EL_val (R_lss_f rfl rfl (by omega)) rfl rfl rfl ?_
    refine EL_nil ?_
    refine E_seq ?_
    refine E_cond_f rfl ?_
    refine E_exit ?_
    refine thenQ_e ?_
    refine thenQ_e ?_
    refine inB_eq rfl ?_
    refine thenQ_n ?_
    refine E_seqR ?_
    refine EL_val (R_assign rfl) rfl rfl rfl ?_
    refine EL_nil ?_
    refine E_ret ?_
    refine ret1 (.inr rfl) rfl rfl ?_
    refine ⟨⟨_, rfl, .inr ⟨rfl, fun k hk' => ?_⟩⟩, hm⟩
    obtain ⟨j, hj, rfl⟩ := List.getElem_of_mem hk'
    exact decide_eq_false (hall j hj (by omega))
/-- the first one at a place holds l -/
def Fd (L : List (Int × List UInt8)) (x : Int) (l : List UInt8) : Prop := ∃ (i : Nat) (h : i < L.length), L[i] = (x, l) ∧ ∀ (j : Nat) (hj : j < i), (L[j]'(by omega)).1 ≠ x
theorem block_ok {w : World} {B : Nat} {A : Option Addr} {L : List (Int × List UInt8)} {c : Nat} {x : Int} {l : List UInt8} (hk : RW w B A L) (hl : L.length ≤ 9223372036854775807) (hf : Fd L x l) :
    Ret Try.prog 43 [.slice A L.length c, .int .i64 x] w fun v w' => (∃ Ay cy, v = .tuple #[.slice Ay l.length cy, .bool true] ∧ l.length ≤ cy ∧ BS w' Ay l ∧ ∀ g' i', Ay = some ⟨g', i', none⟩ → 0 < l.length → g' < B) ∧ Mods No w w' := by
  obtain ⟨i, hi, hLi, hfirst⟩ := hf
  refine Ret.enter Try.func43 rfl Try.ntmps43 rfl ?_
  simp only [argEnv, Nat.reduceAdd]
  refine E_seqR ?_
  refine EL_step rfl ?_
  refine EO_box rfl rfl ?_
  intro w1 hn1
  refine EL_val (R_assign rfl) rfl rfl rfl ?_
  refine EL_val (R_assign rfl) rfl rfl rfl ?_
  refine EL_nil ?_
  refine E_seqR ?_
  refine EL_val (R_move rfl) rfl rfl rfl ?_
  refine EL_val (R_makeFunc rfl) rfl rfl rfl ?_
  refine EL_step rfl ?_
  refine EO_call K.bd53 rfl rfl (windex_ok (hk.no hn1.mods) hl hn1.bk) ?_
  rintro _ w2 ⟨⟨z, rfl, hz⟩, hm2⟩
  refine EL_val (R_assign rfl) rfl rfl rfl ?_
  refine EL_nil ?_
  refine E_seq ?_
  have hzi : z = (i : Int) := by
    rcases hz with ⟨i', hi', rfl, hp, hall⟩ | ⟨_, hall⟩
    · have hp' := of_decide_eq_true hp
      rcases Nat.lt_trichotomy i' i with h | h | h
      · exact absurd hp' (hfirst i' h)
      · rw [h]
      · have := of_decide_eq_false (hall i h)
        exact absurd (by rw [hLi]) this
    · have := of_decide_eq_false (hall _ (List.getElem_mem hi))
      exact absurd (by rw [hLi]) this
  subst hzi
  have hm02 := hn1.mods.trans hm2
  obtain ⟨g, o, rfl, _, hcs⟩ := (hk.no hm02) (by omega)
  obtain ⟨Ay, cy, hcell, hcy, hbs, hlt⟩ := hcs i hi
  have hc1 := hcell 1 _ rfl
  rw [hLi] at hc1 hcy hbs hlt
  refine E_seqR ?_
  refine EL_val (R_move rfl) rfl rfl rfl ?_
  first | refine EL_val (R_lss_t rfl rfl (by omega)) rfl rfl rfl ?_ | refine EL_val (R_lss_f rfl rfl (by omega)) rfl rfl rfl ?_
  refine EL_nil ?_
  refine E_cond_f rfl ?_
  refine E_skip ?_
  refine thenQ_n ?_
  refine E_seqR ?_
  refine EL_val (R_move rfl) rfl rfl rfl ?_
  refine EL_val (R_move rfl) rfl rfl rfl ?_
  refine EL_val (R_indexAddr rfl rfl Try.underlying33 K.sz59 (m := i) rfl hi) rfl rfl rfl ?_
  refine EL_val (R_fieldAddr rfl K.fT59_1) rfl rfl rfl ?_
  refine EL_val (R_load rfl K.ag56 (hc1)) rfl rfl rfl ?_
  refine EL_val (R_assign rfl) rfl rfl rfl ?_
  refine EL_val (R_assign rfl) rfl rfl rfl ?_
  refine EL_nil ?_
  refine E_ret ?_
  refine ret2 (.inr rfl) rfl rfl rfl ?_
  exact ⟨⟨Ay, cy, rfl, hcy, hbs, hlt⟩, hm02⟩
/-! ### a reader -/
structure RD (w : World) (B r : Nat) (A : Option Addr) (c n : Nat) (pv : Value) (ps : List Int) (ov : Value) (os : List Int) : Prop where
  br : Bk w r #[.slice A n c, pv, ov, .bool false] 63
  ge : B ≤ r
  po : OI B w pv ps
  oo : OI B w ov os
  ne : ∀ g, pv.ownBlock = some g → ov.ownBlock ≠ some g
theorem RD.no {w w' : World} {B r : Nat} {A : Option Addr} {c n : Nat} {pv : Value} {ps : List Int} {ov : Value} {os : List Int} (h : RD w B r A c n pv ps ov os) (hm : Mods No w w') : RD w' B r A c n pv ps ov os :=
  ⟨hm.bk' h.br, h.ge, h.po.no hm, h.oo.no hm, h.ne⟩
/-- what a page read is -/
def Pg (L : List (Int × List UInt8)) (x : Int) (q : List Int) : Prop :=
  (x = 0 ∧ q = List.replicate 30 0) ∨ (x ≠ 0 ∧ dataI x = true ∧ ∃ l, q = P30 l ∧ Fd L x (pageC l) ∧ Small l ∧ l.length ≤ 30 ∧ q.any nzI = true ∧ ptrsB q = true)
theorem Pg.length {L : List (Int × List UInt8)} {x : Int} {q : List Int} (h : Pg L x q) : q.length = 30 := by
  rcases h with ⟨_, rfl⟩ | ⟨_, _, l, rfl, _, _, h, _⟩
  · simp
  · exact P30_length h
def nzL (x : Int) : List Int := if x = 0 then [] else [x]
theorem rdpage_ok {w : World} {B r : Nat} {A : Option Addr} {c : Nat} {L : List (Int × List UInt8)} {pv : Value} {ps : List Int} {ov : Value} {os : List Int} (h : RD w B r A c L.length pv ps ov os) (hB : B ≤ w.heap.size) (hk : RW w B A L) (hl : L.length ≤ 9223372036854775807) (hos : os.length ≤ 1000) {x : Int} {q : List Int} (hq : Pg L x q) :
    Ret Try.prog 32 [ptr r, .int .i64 x] w fun v w' => OI w.heap.size w' v q ∧ (∃ ov', RD w' B r A c L.length pv ps ov' (os ++ nzL x) ∧ (∀ g, ov'.ownBlock = some g → ov.ownBlock = some g ∨ w.heap.size ≤ g) ∧ ∀ g, v.ownBlock = some g → ov'.ownBlock ≠ some g) ∧ Mods (fun i => i = r ∨ some i = ov.ownBlock) w w' := by
  rcases hq with ⟨h0, rfl⟩ | ⟨h0, hd, l, rfl, hf, hsm, h30, hnz, hpt⟩
  · subst h0
    refine Ret.enter Try.func32 rfl Try.ntmps32 rfl ?_
    simp only [argEnv, Nat.reduceAdd]
    refine E_seqR ?_
    refine EL_val (R_assign rfl) rfl rfl rfl ?_
    refine EL_nil ?_
    refine E_seq ?_
    refine E_seqR ?_
    refine EL_val (R_move rfl) rfl rfl rfl ?_
    first | refine EL_val (R_eql_t rfl rfl (by omega)) rfl rfl rfl ?_ | refine EL_val (R_eql_f rfl rfl (by omega)) rfl rfl rfl ?_
    refine EL_nil ?_
    refine E_cond_t rfl ?_
    refine E_seqR ?_
    refine EL_step rfl ?_
    refine EO_makeSlice 30 30 rfl rfl Try.underlying22 K.zr3 K.sz3 K.by3 (by first | rfl | omega) (by first | rfl | omega) (by omega) (by omega) (by omega) rfl ?_
    intro w1 hn1
    refine EL_val (R_assign rfl) rfl rfl rfl ?_
    refine EL_nil ?_
    refine E_ret ?_
    refine thenQ_r ?_
    refine ret1 (.inr rfl) rfl rfl ?_
    refine ⟨OI.made hn1 (Nat.le_refl _) (by omega), ⟨ov, by simpa [nzL] using h.no hn1.mods, fun g hg => .inl hg, fun g hg e => ?_⟩, hn1.mods.no⟩
    obtain ⟨_, cur, hc⟩ := own_blk h.oo e
    have := hc.lt
    have hg' : w.heap.size = g := by simpa [Value.ownBlock] using hg
    omega
  · have h64 := pageC_length h30
    have hda : ∀ w, Ret Try.prog 35 [.int .i64 x] w fun v w' => v = .bool true ∧ w = w' := fun w => by have := data_ok (w := w) (n := x); rwa [hd] at this
    have hnum := nums_pageC h30 hsm
    have hpl := P30_length h30
    have hnl : nzL x = [x] := by rw [nzL, if_neg h0]
    rw [hnl]
    refine Ret.enter Try.func32 rfl Try.ntmps32 rfl ?_
    simp only [argEnv, Nat.reduceAdd]
    refine E_seqR ?_
    refine EL_val (R_assign rfl) rfl rfl rfl ?_
    refine EL_nil ?_
    refine E_seq ?_
    refine E_seqR ?_
    refine EL_val (R_move rfl) rfl rfl rfl ?_
    first | refine EL_val (R_eql_t rfl rfl (by omega)) rfl rfl rfl ?_ | refine EL_val (R_eql_f rfl rfl (by omega)) rfl rfl rfl ?_
    refine EL_nil ?_
    refine E_cond_f rfl ?_
    refine E_skip ?_
    refine thenQ_n ?_
    refine E_seqR ?_
    refine EL_val (R_move rfl) rfl rfl rfl ?_
    refine EL_val (R_nilCheck rfl) rfl rfl rfl ?_
    refine EL_val (R_fieldAddr rfl K.fT63_0) rfl rfl rfl ?_
    refine EL_val (R_load rfl K.ag33 (h.br.cell rfl)) rfl rfl rfl ?_
    refine EL_val (R_move rfl) rfl rfl rfl ?_
    refine EL_step rfl ?_
    refine EO_call K.bd43 rfl rfl (block_ok hk hl hf) ?_
    rintro _ w1 ⟨⟨Ay, cy, rfl, hcy, hbs, hAy⟩, hm1⟩
    refine EL_val (R_move rfl) rfl rfl rfl ?_
    refine EL_val (R_extract rfl rfl) rfl rfl rfl ?_
    refine EL_val (R_extract rfl rfl) rfl rfl rfl ?_
    refine EL_val (R_assign rfl) rfl rfl rfl ?_
    refine EL_val (R_assign rfl) rfl rfl rfl ?_
    refine EL_nil ?_
    refine E_seqR ?_
    refine EL_val (R_move rfl) rfl rfl rfl ?_
    refine EL_val (R_move rfl) rfl rfl rfl ?_
    refine EL_val (R_nilCheck rfl) rfl rfl rfl ?_
    refine EL_val (R_fieldAddr rfl K.fT63_2) rfl rfl rfl ?_
    refine EL_val (R_load rfl K.ag22 ((hm1.bk' h.br).cell rfl)) rfl rfl rfl ?_
    refine EL_val (R_move rfl) rfl rfl rfl ?_
    refine EL_step rfl ?_
    refine EO_buildSlice Try.underlying22 K.zr3 K.sz3 rfl rfl rfl (fill_whole rfl (by rw [size_madeCells])) rfl ?_
    intro w2 hn2
    refine EL_step rfl ?_
    refine EO_append rfl rfl Try.underlying22 K.sz3 K.zr3 K.by3 rfl (by decide) ((h.oo.no hm1).no hn2.mods) (Src.bk hn2.bk 1 1 [.int .i64 x] rfl (fun j u hj => by rw [Nat.zero_add]; show (#[.int .i64 x] : Array Value)[j]? = some u; simpa using hj)) (by simp [Value.oneCell']) (by simp only [maxLen]; omega) (by omega) (by have := hn2.size; have := hm1.size; omega) rfl ?_
    intro v3 w3 ho3 hm3 hat3
    (have hoo2 := (h.oo.no hm1).no hn2.mods; have hm12 := hm1.trans hn2.mods; have hs12 := hm12.size;  have hne : ∀ {g : Nat} {C : Array Value} {t : TypeId}, Bk w2 g C t → t ≠ 3 → ¬ (some g = ov.ownBlock) := fun hb ht e => (by obtain ⟨_, cur, hc⟩ := own_blk hoo2 e.symm; exact ht (hb.inj hc).2);  have hb3 := hm3.bk (hm12.bk' h.br) (hne (hm12.bk' h.br) (by decide)); have hbs3 : BS w3 Ay (pageC l) := Src.mods (hbs.no' hn2.mods) hm3 (fun g i hA e => (by obtain ⟨hge, _⟩ := own_blk hoo2 e.symm; have := hAy g i hA (by omega); omega)); obtain ⟨A3, c3, rfl, hc3, _⟩ := own_sl ho3)
    refine EL_val (R_nilCheck rfl) rfl rfl rfl ?_
    refine EL_val (R_fieldAddr rfl K.fT63_2) rfl rfl rfl ?_
    refine EL_step rfl ?_
    refine EO_store1 rfl rfl K.sz22 rfl hb3 (by show 2 < 4; omega) ?_
    intro w4 hu4
    (have hu4' : Upd w3 w4 r #[.slice A L.length c, pv, .slice A3 (os.length + 1) c3, .bool false] 63 := hu4; have hbs4 : BS w4 Ay (pageC l) := Src.mods hbs3 hu4'.mods (fun g i hA e => (by have := hAy g i hA (by omega); have := h.ge; omega)))
    refine EL_nil ?_
    refine E_seq ?_
    refine E_seqR ?_
    refine EL_val (R_move rfl) rfl rfl rfl ?_
    refine EL_val (R_not rfl) rfl rfl rfl ?_
    refine EL_val (R_move rfl) rfl rfl rfl ?_
    first | refine EL_val (R_move rfl) rfl rfl rfl ?_ | refine EL_not rfl rfl rfl ?_
    refine EL_step rfl ?_
    refine EO_call K.bd44 rfl rfl ((by have := sealed_ok hbs4 hcy (by omega); rw [pageC_sealed h30] at this; exact this)) ?_
    rintro _ w5 ⟨rfl, hm5⟩
    first | refine EL_val (R_not rfl) rfl rfl rfl ?_ | refine EL_not rfl rfl rfl ?_
    first | refine EL_val (R_pick_t rfl rfl) rfl rfl rfl ?_ | refine EL_val (R_pick_f rfl rfl) rfl rfl rfl ?_
    refine EL_val (R_move rfl) rfl rfl rfl ?_
    first | refine EL_val (R_move rfl) rfl rfl rfl ?_ | refine EL_not rfl rfl rfl ?_
    refine EL_step rfl ?_
    refine EO_call K.bd35 rfl rfl (hda _) ?_
    rintro _ _ ⟨rfl, rfl⟩
    first | refine EL_val (R_not rfl) rfl rfl rfl ?_ | refine EL_not rfl rfl rfl ?_
    first | refine EL_val (R_pick_t rfl rfl) rfl rfl rfl ?_ | refine EL_val (R_pick_f rfl rfl) rfl rfl rfl ?_
    refine EL_nil ?_
    refine E_cond_f rfl ?_
    refine E_skip ?_
    refine thenQ_n ?_
    refine E_seqR ?_
    refine EL_val (R_move rfl) rfl rfl rfl ?_
    refine EL_step rfl ?_
    refine EO_call K.bd45 rfl rfl ((by have := nums_ok (a := 0) (size := 2) (count := 30) (hbs4.no' hm5) hcy (by omega) (by omega) (by omega) (by omega); rw [hnum] at this; exact this)) ?_
    rintro v6 w6 ⟨ho6, hm6⟩
    (have ho6' : OI w5.heap.size w6 v6 (P30 l) := (by unfold OI; rw [hpl]; exact ho6); obtain ⟨A6, c6, rfl, hc6, his6⟩ := ho6'.sl)
    refine EL_val (R_assign rfl) rfl rfl rfl ?_
    refine EL_nil ?_
    refine E_seq ?_
    refine E_seqR ?_
    refine EL_val (R_move rfl) rfl rfl rfl ?_
    refine EL_step rfl ?_
    refine EO_call K.bd36 rfl rfl ((by have := containsfunc_ok (c := c6) his6 (by omega) K.bd46 (fun k => nz2_ok); rw [hnz] at this; exact this)) ?_
    rintro _ _ ⟨rfl, rfl⟩
    refine EL_val (R_not rfl) rfl rfl rfl ?_
    refine EL_val (R_move rfl) rfl rfl rfl ?_
    first | refine EL_val (R_move rfl) rfl rfl rfl ?_ | refine EL_not rfl rfl rfl ?_
    refine EL_step rfl ?_
    refine EO_call K.bd18 rfl rfl ((by have := pointers_ok (c := c6) his6 (by omega); rw [hpt] at this; exact this)) ?_
    rintro _ w7 ⟨rfl, hm7⟩
    first | refine EL_val (R_not rfl) rfl rfl rfl ?_ | refine EL_not rfl rfl rfl ?_
    first | refine EL_val (R_pick_t rfl rfl) rfl rfl rfl ?_ | refine EL_val (R_pick_f rfl rfl) rfl rfl rfl ?_
    refine EL_nil ?_
    refine E_cond_f rfl ?_
    refine E_skip ?_
    refine thenQ_n ?_
    refine E_seqR ?_
    refine EL_val (R_move rfl) rfl rfl rfl ?_
    refine EL_val (R_assign rfl) rfl rfl rfl ?_
    refine EL_nil ?_
    refine E_ret ?_
    refine ret1 (.inr rfl) rfl rfl ?_
    have hm57 := (hm5.trans hm6).trans hm7
    have hge := h.ge
    have hs5 : w.heap.size ≤ w5.heap.size := by have := hm3.size; have := hu4'.mods.size; have := hm5.size; omega
    have hpo2 := (h.po.no hm1).no hn2.mods
    have hpo4 : OI B w4 pv ps := own_upd (hm3.own hpo2 fun k hk e => h.ne k hk e.symm) hu4' hb3 (by decide)
    have hoo4 : OI B w4 (.slice A3 (os.length + 1) c3) (os ++ [x]) := own_upd (OI.appd (ys := [x]) ho3) hu4' hb3 (by decide)
    refine ⟨own_mono (ho6'.no hm7) hs5, ⟨_, ⟨hm57.bk' hu4'.bk, hge, hpo4.no hm57, hoo4.no hm57, fun g hg e => ?_⟩, fun g hg => ?_, fun g hg e => ?_⟩, ?_⟩
    · obtain ⟨_, cur, hc⟩ := own_blk h.po hg
      have hglt := hc.lt
      rcases hat3 with h1 | h1
      · rw [h1] at e; exact h.ne g hg e
      · rw [h1] at e; injection e with e; omega
    · rcases hat3 with h1 | h1
      · rw [h1] at hg; exact .inl hg
      · rw [h1] at hg; injection hg with hg; exact .inr (by omega)
    · obtain ⟨hb1, _⟩ := own_blk ho6' hg
      obtain ⟨_, cur, hc⟩ := own_blk hoo4 e
      have := hc.lt
      have := hm5.size
      omega
    · refine ((Mods.trans' (S := fun i => i = r ∨ some i = ov.ownBlock) (hm12.mono fun _ _ h => h.elim) hm3 fun i _ e => .inr e).trans' hu4'.mods fun i _ e => .inl e).trans' hm57 fun i _ e => e.elim
end Go.Proofs.Ytifmdcjncbbcgaa
