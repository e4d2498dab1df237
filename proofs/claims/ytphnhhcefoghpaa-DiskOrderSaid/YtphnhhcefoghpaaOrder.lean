/- 'drydocklaw07.DiskOrder' returns true for every input; the arguments read as they did. -/
import Derived.Test.YtphnhhcefoghpaaBarriers0
import Derived.Test.YtphnhhcefoghpaaRows
import Derived.ChangeOld
import Derived.OpenShut
set_option linter.unusedVariables false
set_option linter.unusedSimpArgs false
set_option maxRecDepth 100000
namespace Go.Proofs.Ytphnhhcefoghpaa
open Go.EW Go.RowKit Go.ChangeShapes Go.WideShapes Go.ChangeAt

def strV (l : List (List UInt8)) : List Value := l.map fun x => Value.string (str x)
/-- rows of strings, each in memory of its own; the first m are there -/
structure SRat (w : World) (B gs m : Nat) (C : Array Value) (sv : Nat → Value) (st : Nat → List (List UInt8)) : Prop where
  hb : Bk w gs C 31
  size : C.size = 6
  Bg : B ≤ gs
  mle : m ≤ 6
  at_ : ∀ j, j < m → C[j]? = some (sv j)
  own : ∀ j, j < m → w.ownsRow B 9 1 (sv j) (st j).length (strV (st j))
  apart : ∀ i j k, i < m → j < m → i ≠ j → (sv i).ownBlock = some k → (sv j).ownBlock ≠ some k
def SR (w : World) (B gs m : Nat) (st : Nat → List (List UInt8)) : Prop := ∃ C sv, SRat w B gs m C sv st
theorem SRat.mods {w w' : World} {B gs m : Nat} {C : Array Value} {sv : Nat → Value} {st : Nat → List (List UInt8)} {S : Nat → Prop} (h : SRat w B gs m C sv st) (hm : Mods S w w') (hs : ∀ g C t, B ≤ g → Bk w g C t → (t = 31 ∨ t = 9) → ¬ S g) : SRat w' B gs m C sv st :=
  ⟨hm.bk h.hb (hs gs _ _ h.Bg h.hb (.inl rfl)), h.size, h.Bg, h.mle, h.at_, fun j hj => hm.own (h.own j hj) fun k hk => by
    obtain ⟨hb, cur, hc⟩ := own_bk (h.own j hj) hk
    exact hs k _ _ hb hc (.inr rfl), h.apart⟩
theorem SR.mods {w w' : World} {B gs m : Nat} {st : Nat → List (List UInt8)} {S : Nat → Prop} (h : SR w B gs m st) (hm : Mods S w w') (hs : ∀ g C t, B ≤ g → Bk w g C t → (t = 31 ∨ t = 9) → ¬ S g) : SR w' B gs m st := by
  obtain ⟨C, sv, h⟩ := h; exact ⟨C, sv, h.mods hm hs⟩
theorem SR.no {w w' : World} {B gs m : Nat} {st : Nat → List (List UInt8)} (h : SR w B gs m st) (hm : Mods No w w') : SR w' B gs m st := h.mods hm fun _ _ _ _ _ _ h => h
theorem SR.dm {w w' : World} {B gs m : Nat} {st : Nat → List (List UInt8)} (h : SR w B gs m st) (hm : DM B w w') : SR w' B gs m st := h.mods hm fun g C t _ hb ht hf => by
  rcases ht with rfl | rfl
  · exact foot_not hb (by decide) hf
  · exact foot_not hb (by decide) hf
/-- row i is set, or row m is laid -/
theorem SRat.set {w w1 w' : World} {B gs m : Nat} {C : Array Value} {sv : Nat → Value} {st : Nat → List (List UInt8)} (h : SRat w B gs m C sv st) {i : Nat} (hi : i ≤ m) (hi6 : i < 6) {S : Nat → Prop} (hm : Mods S w w1) (hS : ∀ k, S k → i < m ∧ some k = (sv i).ownBlock)
    {v : Value} (hu : Upd w1 w' gs (C.setIfInBounds i v) 31) {l : List (List UInt8)} (hown : w1.ownsRow B 9 1 v l.length (strV l)) (hap : (i < m ∧ v.ownBlock = (sv i).ownBlock) ∨ ∃ k, v.ownBlock = some k ∧ w.heap.size ≤ k) :
    SRat w' B gs (if i = m then m + 1 else m) (C.setIfInBounds i v) (fup sv i v) (fup st i l) := by
  have hgs : ¬ S gs := fun hh => by
    obtain ⟨him, he⟩ := hS gs hh
    exact own_ne (h.own i him) h.hb (by decide) he
  have hb1 : Bk w1 gs C 31 := hm.bk h.hb hgs
  have hne : ∀ j, j < m → j ≠ i → ∀ k, (sv j).ownBlock = some k → k < w.heap.size ∧ ¬ S k ∧ k ≠ gs ∧ (i < m → (sv i).ownBlock ≠ some k) := by
    intro j hj hji k hk
    obtain ⟨_, cur, hc⟩ := own_bk (h.own j hj) hk
    refine ⟨hc.lt, fun hh => ?_, fun hh => ?_, fun him hh => h.apart j i k hj him hji hk hh⟩
    · obtain ⟨him, he⟩ := hS k hh
      exact h.apart j i k hj him hji hk he.symm
    · subst hh; exact absurd (h.hb.inj hc).2 (by decide)
  have hcase : ∀ j, j < (if i = m then m + 1 else m) → j = i ∨ (j ≠ i ∧ j < m) := by
    intro j hj
    by_cases hji : j = i
    · exact .inl hji
    · refine .inr ⟨hji, ?_⟩
      split at hj <;> omega
  refine ⟨hu.bk, by simpa using h.size, h.Bg, by have := h.mle; split <;> omega, fun j hj => ?_, fun j hj => ?_, fun a b k ha hb hab h1 h2 => ?_⟩
  · rcases hcase j hj with rfl | ⟨hji, hjm⟩
    · rw [fup_at, Array.getElem?_setIfInBounds_self_of_lt (by rw [h.size]; exact hi6)]
    · rw [fup_ne _ _ hji, Array.getElem?_setIfInBounds_ne (fun e => hji e.symm)]
      exact h.at_ j hjm
  · rcases hcase j hj with rfl | ⟨hji, hjm⟩
    · rw [fup_at, fup_at]
      exact hu.mods.own hown fun k hk hkg => by
        subst hkg
        exact own_ne hown hb1 (by decide) hk.symm
    · rw [fup_ne _ _ hji, fup_ne _ _ hji]
      exact hu.mods.own (hm.own (h.own j hjm) fun k hk => (hne j hjm hji k hk).2.1) fun k hk => (hne j hjm hji k hk).2.2.1
  · rcases hcase a ha with rfl | ⟨hai, ham⟩
    · rw [fup_at] at h1
      rw [fup_ne _ _ (fun e => hab e.symm)] at h2
      rcases hcase b hb with rfl | ⟨hbi, hbm⟩
      · exact hab rfl
      · obtain ⟨q1, q2, _, q4⟩ := hne b hbm hbi k h2
        rcases hap with ⟨him, he⟩ | ⟨k', he, hlt⟩
        · exact q4 him (by rw [← he, h1])
        · rw [he] at h1; injection h1 with h1; omega
    · rw [fup_ne _ _ hai] at h1
      rcases hcase b hb with rfl | ⟨hbi, hbm⟩
      · rw [fup_at] at h2
        obtain ⟨q1, q2, _, q4⟩ := hne a ham hai k h1
        rcases hap with ⟨him, he⟩ | ⟨k', he, hlt⟩
        · exact q4 him (by rw [← he, h2])
        · rw [he] at h2; injection h2 with h2; omega
      · rw [fup_ne _ _ hbi] at h2
        exact h.apart a b k ham hbm hab h1 h2
theorem strV_one {l : List (List UInt8)} : ∀ v ∈ strV l, v.oneCell' = true := by
  intro v hv
  obtain ⟨b, _, rfl⟩ := List.mem_map.1 hv
  rfl

/-- one more write -/
theorem putS_one {n : Nat} {L : List (Int × List UInt8)} {a : Nat} {l : List UInt8} (ha : a < n) (hl : l.length = 64) : putS (putD n L) [((a : Int), l)] = (putD n (L ++ [((a : Int), l)]), 0) := by
  have hs : spendS (putD n L) = (putD n L, 0) := by simp [spendS, putD]
  have h1 : badLen [((a : Int), l)] = false := by simp [badLen, hl]
  have h2 : badAt (putD n L).n [((a : Int), l)] = false := by
    simp [badAt, putD]
    omega
  unfold putS
  rw [if_neg (by simp [putD]), if_neg (by simp [h1]), if_neg (by simp [h2])]
  simp only [putL, hs, if_true]
  simp only [putD, Prod.mk.injEq, DS.mk.injEq, true_and, and_true, Int.toNat_natCast]
  funext j
  rw [putsTo_snoc]
  by_cases hj : j = a
  · subst hj; simp [fup]
  · rw [fup_ne _ _ hj]
    simp [show ¬ a = j from fun e => hj e.symm]
theorem order_states (L : List (Int × List UInt8)) (a : Nat) (l : List UInt8) : (fun n => zeros64 :: putsTo (L ++ [((a : Int), l)]) n) = fup (fun n => zeros64 :: putsTo L n) a (zeros64 :: putsTo L a ++ [l]) := by
  funext n
  rw [putsTo_snoc]
  by_cases hn : n = a
  · subst hn; simp [fup]
  · rw [fup_ne _ _ hn]; simp [show ¬ a = n from fun e => hn e.symm]
def ow (T : List (List UInt8)) (a : List UInt8) (i : Nat) : Int × List UInt8 := ((((a.getD i 0).toNat % 6 : Nat) : Int), pad64 (T.getD i []))
def owL (T : List (List UInt8)) (a : List UInt8) (i : Nat) : List (Int × List UInt8) := (List.range i).map (ow T a)
theorem owL_succ (T : List (List UInt8)) (a : List UInt8) (i : Nat) : owL T a (i + 1) = owL T a i ++ [ow T a i] := by simp [owL, List.range_succ]
theorem owL_length (T : List (List UInt8)) (a : List UInt8) (i : Nat) : (owL T a i).length = i := by simp [owL]
theorem owL_good (T : List (List UInt8)) (a : List UInt8) (i n : Nat) : ∀ b ∈ putsTo (owL T a i) n, b.length = 64 := by
  intro b hb
  obtain ⟨p, hp, rfl⟩ := List.mem_map.1 hb
  obtain ⟨j, _, rfl⟩ := List.mem_map.1 (List.mem_filter.1 hp).1
  exact pad64_length _
theorem order_walk {w : World} {A1 A2 A3 : Option Addr} {T : List (List UInt8)} {a : List UInt8} {ks : List Int} {c1 c2 c3 : Nat} (hT : BytessAt w.heap.size w A1 T) (ha : BytesAt w.heap.size w A2 a) (hk : IntsAt w.heap.size w A3 ks) :
    Ret Try.prog 3 [.slice A1 T.length c1, .slice A2 a.length c2, .slice A3 ks.length c3] w fun r w' => r = .bool true ∧ Below w.heap.size w w' := by
  have hT1 := hT.1
  have ha1 := ha.1
  have hk1 := hk.1
  refine Ret.enter Try.func3 rfl Try.ntmps3 rfl ?_
  simp only [argEnv, Nat.reduceAdd]
  refine E_seqR ?_
  refine EL_val (R_assign rfl) rfl rfl rfl ?_
  refine EL_nil ?_
  refine E_seqR ?_
  refine EL_step rfl ?_
  refine EO_call K.bd8 rfl rfl ((new_ok (n := 6) (B := w.heap.size) (by omega) (by omega) (Nat.le_refl _))) ?_
  rintro _ w1 ⟨d, rfl, hD1, hm1⟩
  refine EL_val (R_move rfl) rfl rfl rfl ?_
  refine EL_val (R_extract rfl rfl) rfl rfl rfl ?_
  refine EL_val (R_extract rfl rfl) rfl rfl rfl ?_
  refine EL_val (R_assign rfl) rfl rfl rfl ?_
  refine EL_val (R_assign rfl) rfl rfl rfl ?_
  refine EL_nil ?_
  refine E_seq ?_
  refine E_seqR ?_
  refine EL_step rfl ?_
  refine EO_call K.bd9 rfl rfl (awake_ok) ?_
  rintro _ w2 ⟨rfl, hm2⟩
  refine EL_val (R_not rfl) rfl rfl rfl ?_
  refine EL_val (R_move rfl) rfl rfl rfl ?_
  first | refine EL_val (R_move rfl) rfl rfl rfl ?_ | refine EL_not rfl rfl rfl ?_
  first | refine EL_val (R_neq_t rfl rfl (by omega)) rfl rfl rfl ?_ | refine EL_val (R_neq_f rfl rfl (by omega)) rfl rfl rfl ?_ | refine EL_not rfl rfl rfl ?_
  first | refine EL_val (R_pick_t rfl rfl) rfl rfl rfl ?_ | refine EL_val (R_pick_f rfl rfl) rfl rfl rfl ?_
  refine EL_val (R_move rfl) rfl rfl rfl ?_
  first | refine EL_val (R_move rfl) rfl rfl rfl ?_ | refine EL_not rfl rfl rfl ?_
  first | refine EL_val (R_eqlPtrNil rfl Try.underlying25) rfl rfl rfl ?_ | refine EL_not rfl rfl rfl ?_
  first | refine EL_val (R_pick_t rfl rfl) rfl rfl rfl ?_ | refine EL_val (R_pick_f rfl rfl) rfl rfl rfl ?_
  refine EL_nil ?_
  refine E_cond_f rfl ?_
  refine E_skip ?_
  refine thenQ_n ?_
  refine E_seqR ?_
  refine EL_step rfl ?_
  refine EO_makeSlice 6 6 rfl rfl Try.underlying30 K.zr31 K.sz31 K.by31 (by first | rfl | omega) (by first | rfl | omega) (by omega) (by omega) (by omega) rfl ?_
  intro w3 hn3
  refine EL_val (R_assign rfl) rfl rfl rfl ?_
  refine EL_nil ?_
  refine E_seq ?_
  refine E_seqR ?_
  refine EL_val (R_assign rfl) rfl rfl rfl ?_
  refine EL_nil ?_
  have hm13 : Mods No w w3 := (hm1.trans hm2).trans hn3.mods
  have hD3 : Disk w3 w.heap.size d (putD 6 []) := hD1.no (hm2.trans hn3.mods)
  have hs1 := hm1.size
  have hs2 := hm2.size
  have bl3 : Below w.heap.size w w3 := bl_no (Below.refl _ _) (Nat.le_refl _) hm13
  obtain ⟨gs, hgs⟩ : ∃ gs, gs = w2.heap.size := ⟨_, rfl⟩
  rw [← hgs]
  have hgsB : w.heap.size ≤ gs := by omega
  have hSR : SR w3 w.heap.size gs 0 (fun _ => [zeros64]) := by
    have hb := hn3.bk
    rw [← hgs] at hb
    exact ⟨_, fun _ => .slice none 0 0, hb, by simp [size_madeCells], hgsB, by omega, fun j hj => by omega, fun j hj => by omega, fun i j k hi => by omega⟩
  clear hD1 hn3 hm13 hgs
  refine E_cut (fun e0 w' => e0 = [(0, .slice A1 T.length c1), (1, .slice A2 a.length c2), (2, .slice A3 ks.length c3), (7, ptr d), (9, .slice (some ⟨gs, 0, none⟩) 6 6)] ∧ SR w' w.heap.size gs 6 (fun n => zeros64 :: putsTo (owL T a 0) n) ∧ Disk w' w.heap.size d (putD 6 (owL T a 0)) ∧ Below w.heap.size w w') ?_ ?_
  · refine E_block ?_
    refine E_loop (fun m' e' w' => ∃ i, i ≤ 6 ∧ m' = 6 - i ∧ e' = [(0, .slice A1 T.length c1), (1, .slice A2 a.length c2), (2, .slice A3 ks.length c3), (7, ptr d), (9, .slice (some ⟨gs, 0, none⟩) 6 6), (10, .int .i64 ((i : Nat) : Int))] ∧ SR w' w.heap.size gs i (fun _ => [zeros64]) ∧ Disk w' w.heap.size d (putD 6 []) ∧ Below w.heap.size w w') 6 [(0, .slice A1 T.length c1), (1, .slice A2 a.length c2), (2, .slice A3 ks.length c3), (7, ptr d), (9, .slice (some ⟨gs, 0, none⟩) 6 6), (10, .int .i64 ((0 : Nat) : Int))] ⟨rfl, rfl, rfl, rfl, rfl, rfl, trivial⟩ ⟨0, by omega, rfl, rfl, hSR, hD3, bl3⟩ ?_
    clear hSR hD3 bl3
    rintro m' e w5 ⟨i, hi, rfl, rfl, ⟨C, sv, hS⟩, hD5, bl5⟩
    by_cases hi6 : i < 6
    · have hCs := hS.size
      refine E_seq ?_
      refine E_seqR ?_
      refine EL_val (R_move rfl) rfl rfl rfl ?_
      first | refine EL_val (R_lss_t rfl rfl (by omega)) rfl rfl rfl ?_ | refine EL_val (R_lss_f rfl rfl (by omega)) rfl rfl rfl ?_
      refine EL_nil ?_
      refine E_cond_t rfl ?_
      refine E_skip ?_
      refine thenQ_n ?_
      refine E_seq ?_
      refine E_block ?_
      refine E_region ?_
      refine EL_val (R_move rfl) rfl rfl rfl ?_
      refine EL_val (R_move rfl) rfl rfl rfl ?_
      refine EL_step rfl ?_
      refine EO_makeSlice 64 64 rfl rfl Try.underlying23 K.zr5 K.sz5 K.by5 (by first | rfl | omega) (by first | rfl | omega) (by omega) (by omega) (by omega) rfl ?_
      intro w6 hn6
      (have hb6 : Bk w6 w5.heap.size (bv zeros64) 5 := mk64 ▸ hn6.bk)
      refine EL_val (R_bytesStr rfl (src_bv hb6) rfl Try.underlying23 Try.underlying5 Try.underlying9) rfl rfl rfl ?_
      refine EL_step rfl ?_
      refine EO_buildSlice Try.underlying31 K.zr9 K.sz9 rfl rfl rfl (fill_whole rfl (by rw [size_madeCells])) rfl ?_
      intro w7 hn7
      refine EL_val (R_indexAddr rfl rfl Try.underlying30 K.sz31 rfl (by omega)) rfl rfl rfl ?_
      refine EL_step rfl ?_
      refine EO_store1 rfl rfl K.sz31 rfl (hn7.mods.bk' (hn6.mods.bk' hS.hb)) (by omega) ?_
      intro w8 hu8
      refine EL_nil ?_
      refine inB_n ?_
      refine thenQ_n ?_
      refine E_region ?_
      refine EL_val (R_move rfl) rfl rfl rfl ?_
      first | refine EL_val (R_inc rfl (by omega)) rfl rfl rfl ?_ | refine EL_val (R_add_in rfl rfl (by omega) (by omega)) rfl rfl rfl ?_
      refine EL_val (R_assign rfl) rfl rfl rfl ?_
      refine EL_nil ?_
      refine thenQ_n ?_
      have hs6 := hn6.size
      have hsz5 := bl5.size
      have hm57 : Mods No w5 w7 := hn6.mods.trans hn7.mods
      have hC : C.setIfInBounds (0 + i * 1) (.slice (some ⟨w6.heap.size, 0, none⟩) 1 1) = C.setIfInBounds i (.slice (some ⟨w6.heap.size, 0, none⟩) 1 1) := by rw [Nat.zero_add, Nat.mul_one]
      rw [hC] at hu8
      have hown7 : w7.ownsRow w.heap.size 9 1 (.slice (some ⟨w6.heap.size, 0, none⟩) 1 1) [zeros64].length (strV [zeros64]) := hn7.own (size := 1) rfl (by omega) (by simp only [maxLen]; omega)
      have hset := hS.set (i := i) (Nat.le_refl _) hi6 hm57 (fun k hk => hk.elim) hu8 hown7 (.inr ⟨w6.heap.size, rfl, by omega⟩)
      rw [if_pos rfl] at hset
      have hst : fup (fun _ : Nat => [zeros64]) i [zeros64] = fun _ => [zeros64] := by funext k; simp [fup]
      rw [hst] at hset
      refine ⟨rfl, 6 - (i + 1), [(0, .slice A1 T.length c1), (1, .slice A2 a.length c2), (2, .slice A3 ks.length c3), (7, ptr d), (9, .slice (some ⟨gs, 0, none⟩) 6 6), (10, .int .i64 ((i + 1 : Nat) : Int))], by omega, ⟨rfl, rfl, rfl, rfl, rfl, rfl, trivial⟩, i + 1, by omega, rfl, rfl, ⟨_, _, hset⟩, ?_, ?_⟩
      · exact (hD5.no hm57).mods hu8.mods fun k hf hk => by subst hk; exact foot_not (hm57.bk' hS.hb) (by decide) hf
      · exact bl_upd (bl_no bl5 (Nat.le_refl _) hm57) (Nat.le_refl _) hu8 hgsB
    · have hi' : i = 6 := by omega
      subst hi'
      refine E_seq ?_
      refine E_seqR ?_
      refine EL_val (R_move rfl) rfl rfl rfl ?_
      first | refine EL_val (R_lss_t rfl rfl (by omega)) rfl rfl rfl ?_ | refine EL_val (R_lss_f rfl rfl (by omega)) rfl rfl rfl ?_
      refine EL_nil ?_
      refine E_cond_f rfl ?_
      refine E_exit ?_
      refine thenQ_e ?_
      refine thenQ_e ?_
      refine inB_eq rfl ?_
      refine thenQ_n ?_
      exact ⟨rfl, [(0, .slice A1 T.length c1), (1, .slice A2 a.length c2), (2, .slice A3 ks.length c3), (7, ptr d), (9, .slice (some ⟨gs, 0, none⟩) 6 6)], ⟨rfl, rfl, rfl, rfl, rfl, trivial⟩, rfl, ⟨C, sv, hS⟩, hD5, bl5⟩
  rintro e0 w4 ⟨rfl, hSR, hD4, bl4⟩
  refine E_seq ?_
  refine E_seqR ?_
  refine EL_val (R_assign rfl) rfl rfl rfl ?_
  refine EL_nil ?_
  refine E_cut (fun e0 w' => ∃ i, e0 = [(2, .slice A3 ks.length c3), (7, ptr d), (9, .slice (some ⟨gs, 0, none⟩) 6 6)] ∧ i ≤ 50 ∧ SR w' w.heap.size gs 6 (fun n => zeros64 :: putsTo (owL T a i) n) ∧ Disk w' w.heap.size d (putD 6 (owL T a i)) ∧ Below w.heap.size w w') ?_ ?_
  · refine E_block ?_
    refine E_loop (fun m' e' w' => ∃ i, i ≤ 50 ∧ m' = 50 - i ∧ e' = [(0, .slice (A1) T.length c1), (1, .slice (A2) a.length c2), (2, .slice A3 ks.length c3), (7, ptr d), (9, .slice (some ⟨gs, 0, none⟩) 6 6), (11, .int .i64 ((i : Nat) : Int))] ∧ SR w' w.heap.size gs 6 (fun n => zeros64 :: putsTo (owL T a i) n) ∧ Disk w' w.heap.size d (putD 6 (owL T a i)) ∧ Below w.heap.size w w') 50 [(0, .slice (A1) T.length c1), (1, .slice (A2) a.length c2), (2, .slice A3 ks.length c3), (7, ptr d), (9, .slice (some ⟨gs, 0, none⟩) 6 6), (11, .int .i64 ((0 : Nat) : Int))] ⟨rfl, rfl, rfl, rfl, rfl, rfl, trivial⟩ ⟨0, by omega, rfl, rfl, hSR, hD4, bl4⟩ ?_
    clear hSR hD4 bl4
    rintro m' e w5 ⟨i, hi, rfl, rfl, ⟨C, sv, hS⟩, ⟨g5, C5, ov5, hD5⟩, bl5⟩
    by_cases hin : i < T.length ∧ i < a.length ∧ i < 50
    · obtain ⟨hi1, hi2, hi3⟩ := hin
      obtain ⟨gt, it, rfl, hgt, hct⟩ := hT.2 (by omega)
      obtain ⟨ga, ia, rfl, hga, hca⟩ := ha.2 (by omega)
      obtain ⟨Ak, ck, hk1', hk2⟩ := hct i hi1
      have hca' : w.cell? ⟨ga, ia + i, none⟩ = some (.int .u8 (a[i].toNat : Int)) := hca i _ (by simp [bv, List.getElem?_eq_getElem hi2])
      have how : ow T a i = (((a[i].toNat % 6 : Nat) : Int), pad64 T[i]) := by simp [ow, List.getD_eq_getElem?_getD, List.getElem?_eq_getElem hi1, List.getElem?_eq_getElem hi2]
      obtain ⟨r, hr⟩ : ∃ r : Nat, r = a[i].toNat % 6 := ⟨_, rfl⟩
      have hr6 : r < 6 := by omega
      rw [← hr] at how
      have h64 : (bv zeros64).size = 64 := by rw [bv_size]; rfl
      have hp64 := pad64_length T[i]
      have hCs := hS.size
      obtain ⟨l, hl⟩ : ∃ l, l = pad64 T[i] := ⟨_, rfl⟩
      rw [← hl] at how hp64
      have hroom : ∀ q, q < (putD 6 (owL T a i)).n → ((putD 6 (owL T a i)).opn q).length + [((r : Int), l)].length ≤ 2199023255552 := fun q _ => by
        have := putsTo_length (owL T a i) q
        rw [owL_length] at this
        show (putsTo (owL T a i) q).length + 1 ≤ _
        omega
      have hpone := putS_one (n := 6) (L := owL T a i) hr6 hp64
      have hrow := hS.at_ r hr6
      have hownr := hS.own r hr6
      have hlenr := putsTo_length (owL T a i) r
      rw [owL_length] at hlenr
      refine E_seq ?_
      refine E_seqR ?_
      refine EL_val (R_move rfl) rfl rfl rfl ?_
      refine EL_val (R_move rfl) rfl rfl rfl ?_
      refine EL_val (R_lenSlice rfl Try.underlying22) rfl rfl rfl ?_
      first | refine EL_val (R_lss_t rfl rfl (by omega)) rfl rfl rfl ?_ | refine EL_val (R_lss_f rfl rfl (by omega)) rfl rfl rfl ?_
      refine EL_val (R_move rfl) rfl rfl rfl ?_
      first | refine EL_val (R_move rfl) rfl rfl rfl ?_ | refine EL_not rfl rfl rfl ?_
      first | refine EL_val (R_move rfl) rfl rfl rfl ?_ | refine EL_not rfl rfl rfl ?_
      first | refine EL_val (R_lenSlice rfl Try.underlying23) rfl rfl rfl ?_ | refine EL_not rfl rfl rfl ?_
      first | refine EL_val (R_lss_t rfl rfl (by omega)) rfl rfl rfl ?_ | refine EL_val (R_lss_f rfl rfl (by omega)) rfl rfl rfl ?_ | refine EL_not rfl rfl rfl ?_
      first | refine EL_val (R_pick_t rfl rfl) rfl rfl rfl ?_ | refine EL_val (R_pick_f rfl rfl) rfl rfl rfl ?_
      refine EL_val (R_move rfl) rfl rfl rfl ?_
      first | refine EL_val (R_move rfl) rfl rfl rfl ?_ | refine EL_not rfl rfl rfl ?_
      first | refine EL_val (R_lss_t rfl rfl (by omega)) rfl rfl rfl ?_ | refine EL_val (R_lss_f rfl rfl (by omega)) rfl rfl rfl ?_ | refine EL_not rfl rfl rfl ?_
      first | refine EL_val (R_pick_t rfl rfl) rfl rfl rfl ?_ | refine EL_val (R_pick_f rfl rfl) rfl rfl rfl ?_
      refine EL_nil ?_
      refine E_cond_t rfl ?_
      refine E_skip ?_
      refine thenQ_n ?_
      refine E_seq ?_
      refine E_block ?_
      refine E_seqR ?_
      refine EL_step rfl ?_
      refine EO_makeSlice 64 64 rfl rfl Try.underlying23 K.zr5 K.sz5 K.by5 (by first | rfl | omega) (by first | rfl | omega) (by omega) (by omega) (by omega) rfl ?_
      intro w6 hn6
      (have hb6 : Bk w6 w5.heap.size (bv zeros64) 5 := mk64 ▸ hn6.bk; have bl6 := bl_no bl5 (Nat.le_refl _) hn6.mods)
      refine EL_val (R_assign rfl) rfl rfl rfl ?_
      refine EL_nil ?_
      refine E_seqR ?_
      refine EL_val (R_move rfl) rfl rfl rfl ?_
      refine EL_val (R_move rfl) rfl rfl rfl ?_
      refine EL_val (R_move rfl) rfl rfl rfl ?_
      refine EL_val (R_indexAddr rfl rfl Try.underlying22 K.sz23 rfl (by omega)) rfl rfl rfl ?_
      refine EL_val (R_load rfl K.ag23 ((by rw [Nat.mul_one]; exact (bl6.cell (p := ⟨gt, it + i, none⟩) hgt).trans hk1'))) rfl rfl rfl ?_
      refine EL_step rfl ?_
      refine EO_copy hb6 (hk2.below bl6).src one_bytes (by omega) rfl rfl Try.underlying23 K.sz5 rfl ?_
      intro w7 hu7
      (have hb7 : Bk w7 w5.heap.size (bv l) 5 := (by rw [hl]; exact splice_pad T[i] ▸ hu7.bk); have hsz5 := bl5.size; have bl7 := bl_upd bl6 (Nat.le_refl _) hu7 (by omega); have hs6 := hn6.size; have hs7 := hu7.size)
      refine EL_nil ?_
      refine E_seqR ?_
      refine EL_val (R_move rfl) rfl rfl rfl ?_
      refine EL_val (R_move rfl) rfl rfl rfl ?_
      refine EL_val (R_indexAddr rfl rfl Try.underlying23 K.sz5 rfl (by omega)) rfl rfl rfl ?_
      refine EL_val (R_load rfl K.ag5 ((by rw [Nat.mul_one]; exact (bl7.cell (p := ⟨ga, ia + i, none⟩) hga).trans hca'))) rfl rfl rfl ?_
      refine EL_val (R_remE (r : Int) (by omega) (by omega) (by omega) rfl rfl) rfl rfl rfl ?_
      refine EL_val (R_convInt (r : Int) (wrap_i64_in (by omega) (by omega)) rfl Try.underlying5 Try.underlying3) rfl rfl rfl ?_
      refine EL_val (R_assign rfl) rfl rfl rfl ?_
      refine EL_nil ?_
      refine E_seq ?_
      refine E_seqR ?_
      refine EL_val (R_move rfl) rfl rfl rfl ?_
      refine EL_val (R_move rfl) rfl rfl rfl ?_
      refine EL_val (R_move rfl) rfl rfl rfl ?_
      refine EL_val (R_build (cells := #[.int .i64 (r : Int), .slice (some ⟨w5.heap.size, 0, none⟩) 64 64]) K.zr34 K.pl34 rfl rfl) rfl rfl rfl ?_
      refine EL_step rfl ?_
      refine EO_buildSlice Try.underlying40 K.zr34 K.sz34 rfl rfl rfl (fill_whole rfl (by rw [size_madeCells])) rfl ?_
      intro w8 hn8
      (have hm57 : Mods No w5 w7 := hn6.mods.trans' hu7.mods (fun k hk hh => by omega); have hm58 := hm57.trans hn8.mods; have hs8 := hn8.size; have hb8 : Bk w8 w7.heap.size #[.int .i64 (r : Int), .slice (some ⟨w5.heap.size, 0, none⟩) l.length 64] 34 := (by rw [hp64]; exact hn8.bk))
      refine EL_step rfl ?_
      refine EO_call K.bd10 rfl rfl ((by have := put_ok (hD5.no hm58) (by omega) (Writes.one hb8 (hn8.mods.bk' hb7)) 1 hroom; rw [hpone] at this; exact this)) ?_
      rintro _ w9 ⟨rfl, hD9, hm9⟩
      first | refine EL_val (R_neq_t rfl rfl (by omega)) rfl rfl rfl ?_ | refine EL_val (R_neq_f rfl rfl (by omega)) rfl rfl rfl ?_
      refine EL_nil ?_
      refine E_cond_f rfl ?_
      refine E_skip ?_
      refine thenQ_n ?_
      refine E_regionD (fun _ => [(9, fun W => W.cell? ⟨gs, 0 + r * 1, none⟩ = some (sv r)), (8, fun W => Src W (some ⟨w5.heap.size, 0, none⟩) 64 1 (l.map fun b => Value.int .u8 (b.toNat : Int)))]) 12 K.mix rfl ?_
      intro w10 hm10 hh10
      (have hb10 : Bk w10 w5.heap.size (bv l) 5 := hm10.bk' (hm9.bk (hn8.mods.bk' hb7) (by decide)); have hS10 : SRat w10 w.heap.size gs 6 C sv _ := ((hS.mods hm58 (fun _ _ _ _ _ _ h => h)).mods hm9 (fun g C t _ hb ht hf => by rcases ht with rfl | rfl <;> exact foot_not hb (by decide) hf)).mods hm10 (fun _ _ _ _ _ _ h => h); have hsrc10 : Src w10 (some ⟨w5.heap.size, 0, none⟩) 64 1 (l.map fun b => Value.int .u8 (b.toNat : Int)) := by have := src_bv hb10; rwa [hp64] at this)
      refine EA_pure 0 rfl (fun _ => R_move rfl) (by kernel_rfl) rfl rfl rfl ?_
      refine EA_pure 1 rfl (fun _ => R_move rfl) (by kernel_rfl) rfl rfl rfl ?_
      refine EA_pure 2 rfl (fun _ => R_move rfl) (by kernel_rfl) rfl rfl rfl ?_
      refine EA_pure 3 rfl (fun _ => R_move rfl) (by kernel_rfl) rfl rfl rfl ?_
      refine EA_pure 4 rfl (fun _ => R_indexAddr rfl rfl Try.underlying30 K.sz31 (m := r) rfl hr6) (by kernel_rfl) rfl rfl rfl ?_
      refine EA_load 5 0 [9, 10, 11] rfl rfl K.ag31 rfl (by kernel_rfl) (by kernel_rfl) rfl rfl ?_
      refine EA_pure 6 rfl (fun _ => R_move rfl) (by kernel_rfl) rfl rfl rfl ?_
      refine EA_lean 7 1 [8, 9, 10, 11] rfl rfl (fun W hW => R_bytesStr hp64 hW rfl Try.underlying23 Try.underlying5 Try.underlying9) (by kernel_rfl) (by kernel_rfl) rfl rfl rfl ?_
      refine EA_one 8 rfl (by kernel_rfl) rfl ⟨fun _ => hS10.hb.cell (by rw [Nat.zero_add, Nat.mul_one]; exact hrow), fun _ => hsrc10, trivial⟩ ?_
      refine EO_buildSlice Try.underlying31 K.zr9 K.sz9 rfl rfl rfl (fill_whole rfl (by rw [size_madeCells])) rfl ?_
      intro w11 hn11
      (have hS11 := hS10.mods hn11.mods (fun _ _ _ _ _ _ h => h); have hs9 := hm9.size; have hs10 := hm10.size; have hs11 := hn11.size)
      refine EA_one 9 rfl (by kernel_rfl) rfl ⟨fun _ => hS11.hb.cell (by rw [Nat.zero_add, Nat.mul_one]; exact hrow), kl (by kernel_rfl), trivial⟩ ?_
      refine EO_append rfl rfl Try.underlying31 K.sz9 K.zr9 K.by9 rfl (by decide) (hS11.own r hr6) (Src.bk hn11.bk 1 1 [.string (str l)] rfl (fun q u hq => by rw [Nat.zero_add]; show (#[.string (str l)] : Array Value)[q]? = some u; simpa using hq)) (by simp [Value.oneCell']) (by simp only [maxLen, List.length_cons]; omega) (by simp only [List.length_cons]; omega) (by omega) rfl ?_
      intro v12 w12 ho12 hm12 hat12
      (obtain ⟨g12, cap12, cur12, rfl, hb12, hbk12, _⟩ := own_form ho12 (by omega))
      refine EA_pure 10 rfl (fun _ => R_indexAddr rfl rfl Try.underlying30 K.sz31 (m := r) rfl hr6) (by kernel_rfl) rfl rfl rfl ?_
      refine EA_one 11 rfl (by kernel_rfl) rfl (Holds.done (by kernel_rfl)) ?_
      refine EO_store1 rfl rfl K.sz31 rfl (hm12.bk hS11.hb (own_ne (hS11.own r hr6) hS11.hb (by decide))) (by omega) ?_
      intro w13 hu13
      refine EA_done (by kernel_rfl) (Holds.done (by kernel_rfl)) ?_
      refine inB_n ?_
      refine thenQ_n ?_
      refine E_region ?_
      refine EL_val (R_move rfl) rfl rfl rfl ?_
      first | refine EL_val (R_inc rfl (by omega)) rfl rfl rfl ?_ | refine EL_val (R_add_in rfl rfl (by omega) (by omega)) rfl rfl rfl ?_
      refine EL_val (R_assign rfl) rfl rfl rfl ?_
      refine EL_nil ?_
      refine thenQ_n ?_
      have hC13 : C.setIfInBounds (0 + r * 1) (.slice (some ⟨g12, 0, none⟩) ((zeros64 :: putsTo (owL T a i) r).length + 1) cap12) = C.setIfInBounds r (.slice (some ⟨g12, 0, none⟩) ((zeros64 :: putsTo (owL T a i) r).length + 1) cap12) := by rw [Nat.zero_add, Nat.mul_one]
      rw [hC13] at hu13
      have hown12 : w12.ownsRow w.heap.size 9 1 (.slice (some ⟨g12, 0, none⟩) ((zeros64 :: putsTo (owL T a i) r).length + 1) cap12) (zeros64 :: putsTo (owL T a i) r ++ [l]).length (strV (zeros64 :: putsTo (owL T a i) r ++ [l])) := by
        have h1 : strV (zeros64 :: putsTo (owL T a i) r ++ [l]) = strV (zeros64 :: putsTo (owL T a i) r) ++ [.string (str l)] := by simp [strV]
        rw [h1, List.length_append]
        exact ho12
      have hap : (r < 6 ∧ (Value.slice (some ⟨g12, 0, none⟩) ((zeros64 :: putsTo (owL T a i) r).length + 1) cap12).ownBlock = (sv r).ownBlock) ∨ ∃ k, (Value.slice (some ⟨g12, 0, none⟩) ((zeros64 :: putsTo (owL T a i) r).length + 1) cap12).ownBlock = some k ∧ w11.heap.size ≤ k := by
        rcases hat12 with hat12 | hat12
        · exact .inl ⟨hr6, hat12⟩
        · exact .inr ⟨_, hat12, Nat.le_refl _⟩
      have hset := hS11.set (Nat.le_of_lt hr6) hr6 hm12 (fun k hk => ⟨hr6, hk⟩) hu13 hown12 hap
      rw [if_neg (by omega), ← order_states, ← how, ← owL_succ] at hset
      have hD13 : Disk w13 w.heap.size d (putD 6 (owL T a (i + 1))) := by
        rw [owL_succ, how]
        exact (((hD9.no hm10).no hn11.mods).own (hS11.own r hr6) hm12 (by decide)).mods hu13.mods fun k hf hk => by subst hk; exact foot_not (hm12.bk hS11.hb (own_ne (hS11.own r hr6) hS11.hb (by decide))) (by decide) hf
      have bl9 := bl_dm (bl_no bl7 (Nat.le_refl _) hn8.mods) (Nat.le_refl _) hm9
      have bl11 := bl_no (bl_no bl9 (Nat.le_refl _) hm10) (Nat.le_refl _) hn11.mods
      exact ⟨rfl, 50 - (i + 1), [(0, .slice (some ⟨gt, it, none⟩) T.length c1), (1, .slice (some ⟨ga, ia, none⟩) a.length c2), (2, .slice A3 ks.length c3), (7, ptr d), (9, .slice (some ⟨gs, 0, none⟩) 6 6), (11, .int .i64 ((i + 1 : Nat) : Int))], by omega, ⟨rfl, rfl, rfl, rfl, rfl, rfl, trivial⟩, i + 1, by omega, rfl, rfl, ⟨_, _, hset⟩, hD13, bl_upd (bl_own bl11 (Nat.le_refl _) (hS11.own r hr6) hm12) (Nat.le_refl _) hu13 hgsB⟩
    · have hex : ¬ i < T.length ∨ (i < T.length ∧ ¬ i < a.length) ∨ (i < T.length ∧ i < a.length ∧ ¬ i < 50) := by omega
      rcases hex with hx | ⟨hx1, hx2⟩ | ⟨hx1, hx2, hx3⟩
      · refine E_seq ?_
        refine E_seqR ?_
        refine EL_val (R_move rfl) rfl rfl rfl ?_
        refine EL_val (R_move rfl) rfl rfl rfl ?_
        refine EL_val (R_lenSlice rfl Try.underlying22) rfl rfl rfl ?_
        first | refine EL_val (R_lss_t rfl rfl (by omega)) rfl rfl rfl ?_ | refine EL_val (R_lss_f rfl rfl (by omega)) rfl rfl rfl ?_
        refine EL_val (R_move rfl) rfl rfl rfl ?_
        first | refine EL_val (R_move rfl) rfl rfl rfl ?_ | refine EL_not rfl rfl rfl ?_
        first | refine EL_val (R_move rfl) rfl rfl rfl ?_ | refine EL_not rfl rfl rfl ?_
        first | refine EL_val (R_lenSlice rfl Try.underlying23) rfl rfl rfl ?_ | refine EL_not rfl rfl rfl ?_
        first | refine EL_val (R_lss_t rfl rfl (by omega)) rfl rfl rfl ?_ | refine EL_val (R_lss_f rfl rfl (by omega)) rfl rfl rfl ?_ | refine EL_not rfl rfl rfl ?_
        first | refine EL_val (R_pick_t rfl rfl) rfl rfl rfl ?_ | refine EL_val (R_pick_f rfl rfl) rfl rfl rfl ?_
        refine EL_val (R_move rfl) rfl rfl rfl ?_
        first | refine EL_val (R_move rfl) rfl rfl rfl ?_ | refine EL_not rfl rfl rfl ?_
        first | refine EL_val (R_lss_t rfl rfl (by omega)) rfl rfl rfl ?_ | refine EL_val (R_lss_f rfl rfl (by omega)) rfl rfl rfl ?_ | refine EL_not rfl rfl rfl ?_
        first | refine EL_val (R_pick_t rfl rfl) rfl rfl rfl ?_ | refine EL_val (R_pick_f rfl rfl) rfl rfl rfl ?_
        refine EL_nil ?_
        refine E_cond_f rfl ?_
        refine E_exit ?_
        refine thenQ_e ?_
        refine thenQ_e ?_
        refine inB_eq rfl ?_
        refine thenQ_n ?_
        exact ⟨rfl, [(2, .slice A3 ks.length c3), (7, ptr d), (9, .slice (some ⟨gs, 0, none⟩) 6 6)], ⟨rfl, rfl, rfl, trivial⟩, i, rfl, hi, ⟨C, sv, hS⟩, ⟨g5, C5, ov5, hD5⟩, bl5⟩
      · refine E_seq ?_
        refine E_seqR ?_
        refine EL_val (R_move rfl) rfl rfl rfl ?_
        refine EL_val (R_move rfl) rfl rfl rfl ?_
        refine EL_val (R_lenSlice rfl Try.underlying22) rfl rfl rfl ?_
        first | refine EL_val (R_lss_t rfl rfl (by omega)) rfl rfl rfl ?_ | refine EL_val (R_lss_f rfl rfl (by omega)) rfl rfl rfl ?_
        refine EL_val (R_move rfl) rfl rfl rfl ?_
        first | refine EL_val (R_move rfl) rfl rfl rfl ?_ | refine EL_not rfl rfl rfl ?_
        first | refine EL_val (R_move rfl) rfl rfl rfl ?_ | refine EL_not rfl rfl rfl ?_
        first | refine EL_val (R_lenSlice rfl Try.underlying23) rfl rfl rfl ?_ | refine EL_not rfl rfl rfl ?_
        first | refine EL_val (R_lss_t rfl rfl (by omega)) rfl rfl rfl ?_ | refine EL_val (R_lss_f rfl rfl (by omega)) rfl rfl rfl ?_ | refine EL_not rfl rfl rfl ?_
        first | refine EL_val (R_pick_t rfl rfl) rfl rfl rfl ?_ | refine EL_val (R_pick_f rfl rfl) rfl rfl rfl ?_
        refine EL_val (R_move rfl) rfl rfl rfl ?_
        first | refine EL_val (R_move rfl) rfl rfl rfl ?_ | refine EL_not rfl rfl rfl ?_
        first | refine EL_val (R_lss_t rfl rfl (by omega)) rfl rfl rfl ?_ | refine EL_val (R_lss_f rfl rfl (by omega)) rfl rfl rfl ?_ | refine EL_not rfl rfl rfl ?_
        first | refine EL_val (R_pick_t rfl rfl) rfl rfl rfl ?_ | refine EL_val (R_pick_f rfl rfl) rfl rfl rfl ?_
        refine EL_nil ?_
        refine E_cond_f rfl ?_
        refine E_exit ?_
        refine thenQ_e ?_
        refine thenQ_e ?_
        refine inB_eq rfl ?_
        refine thenQ_n ?_
        exact ⟨rfl, [(2, .slice A3 ks.length c3), (7, ptr d), (9, .slice (some ⟨gs, 0, none⟩) 6 6)], ⟨rfl, rfl, rfl, trivial⟩, i, rfl, hi, ⟨C, sv, hS⟩, ⟨g5, C5, ov5, hD5⟩, bl5⟩
      · refine E_seq ?_
        refine E_seqR ?_
        refine EL_val (R_move rfl) rfl rfl rfl ?_
        refine EL_val (R_move rfl) rfl rfl rfl ?_
        refine EL_val (R_lenSlice rfl Try.underlying22) rfl rfl rfl ?_
        first | refine EL_val (R_lss_t rfl rfl (by omega)) rfl rfl rfl ?_ | refine EL_val (R_lss_f rfl rfl (by omega)) rfl rfl rfl ?_
        refine EL_val (R_move rfl) rfl rfl rfl ?_
        first | refine EL_val (R_move rfl) rfl rfl rfl ?_ | refine EL_not rfl rfl rfl ?_
        first | refine EL_val (R_move rfl) rfl rfl rfl ?_ | refine EL_not rfl rfl rfl ?_
        first | refine EL_val (R_lenSlice rfl Try.underlying23) rfl rfl rfl ?_ | refine EL_not rfl rfl rfl ?_
        first | refine EL_val (R_lss_t rfl rfl (by omega)) rfl rfl rfl ?_ | refine EL_val (R_lss_f rfl rfl (by omega)) rfl rfl rfl ?_ | refine EL_not rfl rfl rfl ?_
        first | refine EL_val (R_pick_t rfl rfl) rfl rfl rfl ?_ | refine EL_val (R_pick_f rfl rfl) rfl rfl rfl ?_
        refine EL_val (R_move rfl) rfl rfl rfl ?_
        first | refine EL_val (R_move rfl) rfl rfl rfl ?_ | refine EL_not rfl rfl rfl ?_
        first | refine EL_val (R_lss_t rfl rfl (by omega)) rfl rfl rfl ?_ | refine EL_val (R_lss_f rfl rfl (by omega)) rfl rfl rfl ?_ | refine EL_not rfl rfl rfl ?_
        first | refine EL_val (R_pick_t rfl rfl) rfl rfl rfl ?_ | refine EL_val (R_pick_f rfl rfl) rfl rfl rfl ?_
        refine EL_nil ?_
        refine E_cond_f rfl ?_
        refine E_exit ?_
        refine thenQ_e ?_
        refine thenQ_e ?_
        refine inB_eq rfl ?_
        refine thenQ_n ?_
        exact ⟨rfl, [(2, .slice A3 ks.length c3), (7, ptr d), (9, .slice (some ⟨gs, 0, none⟩) 6 6)], ⟨rfl, rfl, rfl, trivial⟩, i, rfl, hi, ⟨C, sv, hS⟩, ⟨g5, C5, ov5, hD5⟩, bl5⟩
  clear hSR hD4 bl4
  rintro e0 w5 ⟨i, rfl, hi, hSR, ⟨g5, C5, ov5, hD5⟩, bl5⟩

  refine E_seqR ?_
  refine EL_val (R_move rfl) rfl rfl rfl ?_
  refine EL_val (R_move rfl) rfl rfl rfl ?_
  refine EL_step rfl ?_
  refine EO_call K.bd11 rfl rfl (restart_ok hD5 ((hk.below bl5).off (Nat.le_refl _))) ?_
  rintro _ w6 ⟨h6, hm6⟩
  refine EL_nil ?_
  refine E_seq ?_
  refine E_seqR ?_
  refine EL_val (R_assign rfl) rfl rfl rfl ?_
  refine EL_nil ?_
  refine E_block ?_
  have hSR6 := hSR.dm hm6
  have bl6 := bl_dm bl5 (Nat.le_refl _) hm6
  clear hSR
  have hS6n : (restartS (putD 6 (owL T a i)) ks).n = 6 := rfl
  have hS6o : ∀ n, n < 6 → (restartS (putD 6 (owL T a i)) ks).opn n = [] := fun n hn => by simp only [restartS, keepAll]; rw [if_pos (show n < (putD 6 (owL T a i)).n from hn)]
  have hnow : ∀ n, n < 6 → nowS (restartS (putD 6 (owL T a i)) ks) n = (zeros64 :: putsTo (owL T a i) n).getD (min (keepF ks n).toNat (putsTo (owL T a i) n).length) [] := fun n hn => by
    have h1 : (restartS (putD 6 (owL T a i)) ks).last n = keepL (putD 6 (owL T a i)) n (keepF ks n) := by simp only [restartS, keepAll]; rw [if_pos (show n < (putD 6 (owL T a i)).n from hn)]
    unfold nowS
    rw [hS6o n hn, h1]
    rfl
  refine E_loop (fun m' e' w' => ∃ n A3, n ≤ 6 ∧ m' = 6 - n ∧ e' = [(2, .slice (A3) ks.length c3), (7, ptr d), (9, .slice (some ⟨gs, 0, none⟩) 6 6), (14, .int .i64 ((n : Nat) : Int))] ∧ IntsAt w.heap.size w A3 ks ∧ SR w' w.heap.size gs 6 (fun n => zeros64 :: putsTo (owL T a i) n) ∧ Disk w' w.heap.size d (restartS (putD 6 (owL T a i)) ks) ∧ Below w.heap.size w w') 6 [(2, .slice (A3) ks.length c3), (7, ptr d), (9, .slice (some ⟨gs, 0, none⟩) 6 6), (14, .int .i64 ((0 : Nat) : Int))] ⟨rfl, rfl, rfl, rfl, trivial⟩ ⟨0, A3, by omega, rfl, rfl, hk, hSR6, h6, bl6⟩ ?_
  clear hSR6 h6 bl6 hD5 bl5 hm6
  clear hk
  rintro m' e w7 ⟨n, A3, hn, rfl, rfl, hk, ⟨C, sv, hS⟩, hD7, bl7⟩
  by_cases hn6 : n < 6
  · obtain ⟨q, hq⟩ : ∃ q : Nat, q = (keepF ks n).toNat := ⟨_, rfl⟩
    have hrow := hS.at_ n hn6
    obtain ⟨Asv, csv, hsv⟩ := own_slice (hS.own n hn6)
    rw [hsv] at hrow
    have hlen := putsTo_length (owL T a i) n
    rw [owL_length] at hlen
    refine E_seq ?_
    refine E_seqR ?_
    refine EL_val (R_move rfl) rfl rfl rfl ?_
    first | refine EL_val (R_lss_t rfl rfl (by omega)) rfl rfl rfl ?_ | refine EL_val (R_lss_f rfl rfl (by omega)) rfl rfl rfl ?_
    refine EL_nil ?_
    refine E_cond_t rfl ?_
    refine E_skip ?_
    refine thenQ_n ?_
    refine E_seq ?_
    refine E_block ?_
    refine E_seqR ?_
    refine EL_val (R_assign rfl) rfl rfl rfl ?_
    refine EL_nil ?_
    refine E_seq ?_
    refine E_cut (fun e0 w'' => ∃ AA, e0 = [(2, .slice (AA) ks.length c3), (7, ptr d), (9, .slice (some ⟨gs, 0, none⟩) 6 6), (14, .int .i64 (n : Int)), (15, .int .i64 ((q : Nat) : Int))] ∧ IntsAt w.heap.size w AA ks ∧ w7 = w'') ?_ ?_
    · by_cases hkn : n < ks.length
      · obtain ⟨gk, ik, rfl, hgk, hck⟩ := hk.2 (by omega)
        have hkv : keepF ks n = ks[n] := by simp [keepF, List.getD_eq_getElem?_getD, List.getElem?_eq_getElem hkn]
        have hcell : w7.cell? ⟨gk, ik + n, none⟩ = some (.int .i64 (keepF ks n)) := (bl7.cell (p := ⟨gk, ik + n, none⟩) hgk).trans (hck n _ (by rw [hkv]; exact List.getElem?_eq_getElem hkn))
        by_cases hpos : 0 < keepF ks n
        · have hqk : keepF ks n = (q : Int) := by omega
          rw [hqk] at hcell hpos

          refine E_seqR ?_
          refine EL_val (R_move rfl) rfl rfl rfl ?_
          refine EL_val (R_move rfl) rfl rfl rfl ?_
          refine EL_val (R_lenSlice rfl Try.underlying24) rfl rfl rfl ?_
          first | refine EL_val (R_lss_t rfl rfl (by omega)) rfl rfl rfl ?_ | refine EL_val (R_lss_f rfl rfl (by omega)) rfl rfl rfl ?_
          refine EL_val (R_move rfl) rfl rfl rfl ?_
          first | refine EL_val (R_move rfl) rfl rfl rfl ?_ | refine EL_not rfl rfl rfl ?_
          first | refine EL_val (R_move rfl) rfl rfl rfl ?_ | refine EL_not rfl rfl rfl ?_
          first | refine EL_val (R_indexAddr rfl rfl Try.underlying24 K.sz3 rfl (by omega)) rfl rfl rfl ?_ | refine EL_not rfl rfl rfl ?_
          refine EL_val (R_load rfl K.ag3 ((by rw [Nat.mul_one]; exact hcell))) rfl rfl rfl ?_
          first | refine EL_val (R_gtr_t rfl rfl (by omega)) rfl rfl rfl ?_ | refine EL_val (R_gtr_f rfl rfl (by omega)) rfl rfl rfl ?_ | refine EL_not rfl rfl rfl ?_
          first | refine EL_val (R_pick_t rfl rfl) rfl rfl rfl ?_ | refine EL_val (R_pick_f rfl rfl) rfl rfl rfl ?_
          refine EL_nil ?_
          refine E_cond_t rfl ?_
          refine E_region ?_
          refine EL_val (R_move rfl) rfl rfl rfl ?_
          refine EL_val (R_move rfl) rfl rfl rfl ?_
          refine EL_val (R_indexAddr rfl rfl Try.underlying24 K.sz3 rfl (by omega)) rfl rfl rfl ?_
          refine EL_val (R_load rfl K.ag3 ((by rw [Nat.mul_one]; exact hcell))) rfl rfl rfl ?_
          refine EL_val (R_assign rfl) rfl rfl rfl ?_
          refine EL_nil ?_
          refine thenQ_n ?_
          exact ⟨rfl, [(2, .slice (some ⟨gk, ik, none⟩) ks.length c3), (7, ptr d), (9, .slice (some ⟨gs, 0, none⟩) 6 6), (14, .int .i64 (n : Int)), (15, .int .i64 ((q : Nat) : Int))], ⟨rfl, rfl, rfl, rfl, rfl, trivial⟩, _, rfl, hk, rfl⟩
        · have hq0 : q = 0 := by omega
          subst hq0

          refine E_seqR ?_
          refine EL_val (R_move rfl) rfl rfl rfl ?_
          refine EL_val (R_move rfl) rfl rfl rfl ?_
          refine EL_val (R_lenSlice rfl Try.underlying24) rfl rfl rfl ?_
          first | refine EL_val (R_lss_t rfl rfl (by omega)) rfl rfl rfl ?_ | refine EL_val (R_lss_f rfl rfl (by omega)) rfl rfl rfl ?_
          refine EL_val (R_move rfl) rfl rfl rfl ?_
          first | refine EL_val (R_move rfl) rfl rfl rfl ?_ | refine EL_not rfl rfl rfl ?_
          first | refine EL_val (R_move rfl) rfl rfl rfl ?_ | refine EL_not rfl rfl rfl ?_
          first | refine EL_val (R_indexAddr rfl rfl Try.underlying24 K.sz3 rfl (by omega)) rfl rfl rfl ?_ | refine EL_not rfl rfl rfl ?_
          refine EL_val (R_load rfl K.ag3 ((by rw [Nat.mul_one]; exact hcell))) rfl rfl rfl ?_
          first | refine EL_val (R_gtr_t rfl rfl (by omega)) rfl rfl rfl ?_ | refine EL_val (R_gtr_f rfl rfl (by omega)) rfl rfl rfl ?_ | refine EL_not rfl rfl rfl ?_
          first | refine EL_val (R_pick_t rfl rfl) rfl rfl rfl ?_ | refine EL_val (R_pick_f rfl rfl) rfl rfl rfl ?_
          refine EL_nil ?_
          refine E_cond_f rfl ?_
          refine E_skip ?_
          refine thenQ_n ?_
          exact ⟨rfl, [(2, .slice (some ⟨gk, ik, none⟩) ks.length c3), (7, ptr d), (9, .slice (some ⟨gs, 0, none⟩) 6 6), (14, .int .i64 (n : Int)), (15, .int .i64 ((0 : Nat) : Int))], ⟨rfl, rfl, rfl, rfl, rfl, trivial⟩, _, rfl, hk, rfl⟩
      · have hkv : keepF ks n = 0 := by simp [keepF, List.getD_eq_getElem?_getD, List.getElem?_eq_none (show ks.length ≤ n by omega)]
        have hq0 : q = 0 := by omega
        subst hq0

        refine E_seqR ?_
        refine EL_val (R_move rfl) rfl rfl rfl ?_
        refine EL_val (R_move rfl) rfl rfl rfl ?_
        refine EL_val (R_lenSlice rfl Try.underlying24) rfl rfl rfl ?_
        first | refine EL_val (R_lss_t rfl rfl (by omega)) rfl rfl rfl ?_ | refine EL_val (R_lss_f rfl rfl (by omega)) rfl rfl rfl ?_
        refine EL_val (R_move rfl) rfl rfl rfl ?_
        first | refine EL_val (R_move rfl) rfl rfl rfl ?_ | refine EL_not rfl rfl rfl ?_
        first | refine EL_val (R_move rfl) rfl rfl rfl ?_ | refine EL_not rfl rfl rfl ?_
        first | refine EL_val (R_indexAddr rfl rfl Try.underlying24 K.sz3 rfl (by omega)) rfl rfl rfl ?_ | refine EL_not rfl rfl rfl ?_
        first | refine EL_val (R_load rfl K.ag3 (by assumption)) rfl rfl rfl ?_ | refine EL_not rfl rfl rfl ?_
        first | refine EL_val (R_gtr_t rfl rfl (by omega)) rfl rfl rfl ?_ | refine EL_val (R_gtr_f rfl rfl (by omega)) rfl rfl rfl ?_ | refine EL_not rfl rfl rfl ?_
        first | refine EL_val (R_pick_t rfl rfl) rfl rfl rfl ?_ | refine EL_val (R_pick_f rfl rfl) rfl rfl rfl ?_
        refine EL_nil ?_
        refine E_cond_f rfl ?_
        refine E_skip ?_
        refine thenQ_n ?_
        exact ⟨rfl, [(2, .slice (A3) ks.length c3), (7, ptr d), (9, .slice (some ⟨gs, 0, none⟩) 6 6), (14, .int .i64 (n : Int)), (15, .int .i64 ((0 : Nat) : Int))], ⟨rfl, rfl, rfl, rfl, rfl, trivial⟩, _, rfl, hk, rfl⟩
    rintro e0 w8 ⟨AA, rfl, hAA, rfl⟩
    refine E_seq ?_
    refine E_cut (fun e0 w'' => e0 = [(2, .slice (AA) ks.length c3), (7, ptr d), (9, .slice (some ⟨gs, 0, none⟩) 6 6), (14, .int .i64 (n : Int)), (15, .int .i64 ((min q (putsTo (owL T a i) n).length : Nat) : Int))] ∧ w7 = w'') ?_ ?_
    · by_cases hge : (zeros64 :: putsTo (owL T a i) n).length ≤ q
      · have hmin : min q (putsTo (owL T a i) n).length = (putsTo (owL T a i) n).length := by simp at hge; omega
        rw [hmin]
        have hl1 : (zeros64 :: putsTo (owL T a i) n).length = (putsTo (owL T a i) n).length + 1 := rfl
        rw [hl1] at hrow hge

        refine E_seqR ?_
        refine EL_val (R_move rfl) rfl rfl rfl ?_
        refine EL_val (R_move rfl) rfl rfl rfl ?_
        refine EL_val (R_move rfl) rfl rfl rfl ?_
        refine EL_val (R_indexAddr rfl rfl Try.underlying30 K.sz31 rfl (by omega)) rfl rfl rfl ?_
        refine EL_val (R_load rfl K.ag31 ((hS.hb.cell (by rw [Nat.zero_add, Nat.mul_one]; exact hrow)))) rfl rfl rfl ?_
        refine EL_val (R_lenSlice rfl Try.underlying31) rfl rfl rfl ?_
        first | refine EL_val (R_geq_t rfl rfl (by omega)) rfl rfl rfl ?_ | refine EL_val (R_geq_f rfl rfl (by omega)) rfl rfl rfl ?_
        refine EL_nil ?_
        refine E_cond_t rfl ?_
        refine E_region ?_
        refine EL_val (R_move rfl) rfl rfl rfl ?_
        refine EL_val (R_move rfl) rfl rfl rfl ?_
        refine EL_val (R_indexAddr rfl rfl Try.underlying30 K.sz31 rfl (by omega)) rfl rfl rfl ?_
        refine EL_val (R_load rfl K.ag31 ((hS.hb.cell (by rw [Nat.zero_add, Nat.mul_one]; exact hrow)))) rfl rfl rfl ?_
        refine EL_val (R_lenSlice rfl Try.underlying31) rfl rfl rfl ?_
        refine EL_val (R_subE (((putsTo (owL T a i) n).length : Int)) rfl rfl (by omega) (by omega) (by omega)) rfl rfl rfl ?_
        refine EL_val (R_assign rfl) rfl rfl rfl ?_
        refine EL_nil ?_
        refine thenQ_n ?_
        exact ⟨rfl, [(2, .slice (AA) ks.length c3), (7, ptr d), (9, .slice (some ⟨gs, 0, none⟩) 6 6), (14, .int .i64 (n : Int)), (15, .int .i64 (((putsTo (owL T a i) n).length : Nat) : Int))], ⟨rfl, rfl, rfl, rfl, rfl, trivial⟩, rfl, rfl⟩
      · have hmin : min q (putsTo (owL T a i) n).length = q := by simp at hge; omega
        rw [hmin]

        refine E_seqR ?_
        refine EL_val (R_move rfl) rfl rfl rfl ?_
        refine EL_val (R_move rfl) rfl rfl rfl ?_
        refine EL_val (R_move rfl) rfl rfl rfl ?_
        refine EL_val (R_indexAddr rfl rfl Try.underlying30 K.sz31 rfl (by omega)) rfl rfl rfl ?_
        refine EL_val (R_load rfl K.ag31 ((hS.hb.cell (by rw [Nat.zero_add, Nat.mul_one]; exact hrow)))) rfl rfl rfl ?_
        refine EL_val (R_lenSlice rfl Try.underlying31) rfl rfl rfl ?_
        first | refine EL_val (R_geq_t rfl rfl (by omega)) rfl rfl rfl ?_ | refine EL_val (R_geq_f rfl rfl (by omega)) rfl rfl rfl ?_
        refine EL_nil ?_
        refine E_cond_f rfl ?_
        refine E_skip ?_
        refine thenQ_n ?_
        exact ⟨rfl, [(2, .slice (AA) ks.length c3), (7, ptr d), (9, .slice (some ⟨gs, 0, none⟩) 6 6), (14, .int .i64 (n : Int)), (15, .int .i64 ((q : Nat) : Int))], ⟨rfl, rfl, rfl, rfl, rfl, trivial⟩, rfl, rfl⟩
    rintro e0 w8 ⟨rfl, rfl⟩
    obtain ⟨g7, C7, ov7, hD7'⟩ := hD7
    obtain ⟨k2, hk2⟩ : ∃ k2, k2 = min q (putsTo (owL T a i) n).length := ⟨_, rfl⟩
    rw [← hk2]
    have hk2l : k2 < (zeros64 :: putsTo (owL T a i) n).length := by simp; omega
    have hnow' : nowS (restartS (putD 6 (owL T a i)) ks) n = (zeros64 :: putsTo (owL T a i) n)[k2] := by
      rw [hnow n hn6, ← hq, ← hk2, List.getD_eq_getElem?_getD, List.getElem?_eq_getElem hk2l]
      rfl
    have hlen7 := hD7'.now_len (i := n) (by rw [hS6n]; exact hn6)
    have hop : openS (restartS (putD 6 (owL T a i)) ks) n = 0 := by
      simp only [openS, hS6n]
      rw [if_neg (by omega), Int.toNat_natCast, hS6o n hn6]
      rfl
    obtain ⟨gsv, capsv, cursv, hsv2, hBsv, hbksv, _, _, _, htsv⟩ := own_form (hS.own n hn6) (by simp)
    rw [hsv] at hsv2
    injection hsv2 with hA1 hA2 hA3
    subst hA1
    have hcursv : cursv[k2]? = some (.string (str (zeros64 :: putsTo (owL T a i) n)[k2])) := by
      have h1 : (strV (zeros64 :: putsTo (owL T a i) n))[k2]? = some (.string (str (zeros64 :: putsTo (owL T a i) n)[k2])) := by
        unfold strV
        rw [List.getElem?_map, List.getElem?_eq_getElem hk2l]
        rfl
      rw [← htsv, List.getElem?_take] at h1
      split at h1
      · simpa using h1
      · cases h1

    refine E_seqR ?_
    refine EL_val (R_move rfl) rfl rfl rfl ?_
    refine EL_val (R_move rfl) rfl rfl rfl ?_
    refine EL_step rfl ?_
    refine EO_call K.bd12 rfl rfl (get_in hD7' rfl n (by rw [hS6n]; exact hn6)) ?_
    rintro _ w8 ⟨g8, cap8, cur8, rfl, hg8, hb8, hc8, hm8⟩
    refine EL_val (R_move rfl) rfl rfl rfl ?_
    refine EL_val (R_extract rfl rfl) rfl rfl rfl ?_
    refine EL_val (R_extract rfl rfl) rfl rfl rfl ?_
    refine EL_val (R_assign rfl) rfl rfl rfl ?_
    refine EL_val (R_assign rfl) rfl rfl rfl ?_
    refine EL_nil ?_
    refine E_seqD (fun w' => [(17, fun w'' => w'' = w')]) 20 K.mix rfl ?_
    intro w28d hm28d hh28d
    (have hc9 := hm28d.cells hc8 (fun h => h); have hm79 := hm8.trans hm28d; have hS9 := hS.mods hm79 (fun _ _ _ _ _ _ h => h); have hD9 := hD7'.no hm79; have hbk9 := hm79.bk' hbksv)
    refine EA_pure 0 rfl (fun _ => R_move rfl) (by kernel_rfl) rfl rfl rfl ?_
    first | refine EA_pure 1 rfl (fun _ => R_neq_t rfl rfl (by omega)) (by kernel_rfl) rfl rfl rfl ?_ | refine EA_pure 1 rfl (fun _ => R_neq_f rfl rfl (by omega)) (by kernel_rfl) rfl rfl rfl ?_
    refine EA_pure 2 rfl (fun _ => R_move rfl) (by kernel_rfl) rfl rfl rfl ?_
    first | refine EA_pure 3 rfl (fun _ => R_move rfl) (by kernel_rfl) rfl rfl rfl ?_ | refine EA_not 3 rfl (by kernel_rfl) rfl rfl rfl ?_
    refine EA_still 4 [12, 13, 14, 15, 16, 17, 18, 19] rfl (R_bytesStr hlen7 (by have := src_cells hc9; rwa [hlen7] at this) rfl Try.underlying23 Try.underlying5 Try.underlying9) rfl (by kernel_rfl) (by kernel_rfl) rfl rfl rfl ?_
    first | refine EA_pure 5 rfl (fun _ => R_move rfl) (by kernel_rfl) rfl rfl rfl ?_ | refine EA_not 5 rfl (by kernel_rfl) rfl rfl rfl ?_
    first | refine EA_pure 6 rfl (fun _ => R_move rfl) (by kernel_rfl) rfl rfl rfl ?_ | refine EA_not 6 rfl (by kernel_rfl) rfl rfl rfl ?_
    first | refine EA_pure 7 rfl (fun _ => R_indexAddr rfl rfl Try.underlying30 K.sz31 rfl (by omega)) (by kernel_rfl) rfl rfl rfl ?_ | refine EA_not 7 rfl (by kernel_rfl) rfl rfl rfl ?_
    refine EA_still 8 [10, 11, 12, 13, 14, 15, 16, 17, 18, 19] rfl (R_load rfl K.ag31 ((hS9.hb.cell (by rw [Nat.zero_add, Nat.mul_one]; exact hrow)))) rfl (by kernel_rfl) (by kernel_rfl) rfl rfl rfl ?_
    first | refine EA_pure 9 rfl (fun _ => R_move rfl) (by kernel_rfl) rfl rfl rfl ?_ | refine EA_not 9 rfl (by kernel_rfl) rfl rfl rfl ?_
    refine EA_pure 10 rfl (fun _ => R_indexAddr rfl rfl Try.underlying31 K.sz9 (m := k2) rfl hk2l) (by kernel_rfl) rfl rfl rfl ?_
    refine EA_still 11 [12, 13, 14, 15, 16, 17, 18, 19] rfl (R_load rfl K.ag9 ((hbk9.cell (by rw [Nat.zero_add, Nat.mul_one]; exact hcursv)))) rfl (by kernel_rfl) (by kernel_rfl) rfl rfl rfl ?_
    first | refine EA_pure 12 rfl (fun _ => R_strNeq_t rfl rfl (fun h => h hnow')) (by kernel_rfl) rfl rfl rfl ?_ | refine EA_pure 12 rfl (fun _ => R_strNeq_f rfl rfl (fun h => h hnow')) (by kernel_rfl) rfl rfl rfl ?_
    first | refine EA_pure 13 rfl (fun _ => R_pick_t rfl rfl) (by kernel_rfl) rfl rfl rfl ?_ | refine EA_pure 13 rfl (fun _ => R_pick_f rfl rfl) (by kernel_rfl) rfl rfl rfl ?_
    refine EA_pure 14 rfl (fun _ => R_move rfl) (by kernel_rfl) rfl rfl rfl ?_
    first | refine EA_pure 15 rfl (fun _ => R_move rfl) (by kernel_rfl) rfl rfl rfl ?_ | refine EA_not 15 rfl (by kernel_rfl) rfl rfl rfl ?_
    first | refine EA_pure 16 rfl (fun _ => R_move rfl) (by kernel_rfl) rfl rfl rfl ?_ | refine EA_not 16 rfl (by kernel_rfl) rfl rfl rfl ?_
    refine EA_one 17 rfl (by kernel_rfl) rfl ⟨fun _ => rfl, trivial⟩ ?_
    refine EO_call K.bd13 rfl rfl (open_ok hD9 n) ?_
    rintro _ _ ⟨rfl, rfl⟩
    first | refine EA_pure 18 rfl (fun _ => R_neq_t rfl rfl ((by rw [hop]; decide))) (by kernel_rfl) rfl rfl rfl ?_ | refine EA_pure 18 rfl (fun _ => R_neq_f rfl rfl ((by rw [hop]; decide))) (by kernel_rfl) rfl rfl rfl ?_
    first | refine EA_pure 19 rfl (fun _ => R_pick_t rfl rfl) (by kernel_rfl) rfl rfl rfl ?_ | refine EA_pure 19 rfl (fun _ => R_pick_f rfl rfl) (by kernel_rfl) rfl rfl rfl ?_
    refine EA_done (by kernel_rfl) (Holds.done (by kernel_rfl)) ?_
    refine E_cond_f rfl ?_
    refine E_skip ?_
    refine inB_n ?_
    refine thenQ_n ?_
    refine E_region ?_
    refine EL_val (R_move rfl) rfl rfl rfl ?_
    first | refine EL_val (R_inc rfl (by omega)) rfl rfl rfl ?_ | refine EL_val (R_add_in rfl rfl (by omega) (by omega)) rfl rfl rfl ?_
    refine EL_val (R_assign rfl) rfl rfl rfl ?_
    refine EL_nil ?_
    refine thenQ_n ?_
    exact ⟨rfl, 6 - (n + 1), [(2, .slice AA ks.length c3), (7, ptr d), (9, .slice (some ⟨gs, 0, none⟩) 6 6), (14, .int .i64 ((n + 1 : Nat) : Int))], by omega, ⟨rfl, rfl, rfl, rfl, trivial⟩, n + 1, AA, by omega, rfl, rfl, hAA, ⟨C, sv, hS9⟩, ⟨g7, C7, ov7, hD9⟩, bl_no bl7 (Nat.le_refl _) hm79⟩
  · refine E_seq ?_
    refine E_seqR ?_
    refine EL_val (R_move rfl) rfl rfl rfl ?_
    first | refine EL_val (R_lss_t rfl rfl (by omega)) rfl rfl rfl ?_ | refine EL_val (R_lss_f rfl rfl (by omega)) rfl rfl rfl ?_
    refine EL_nil ?_
    refine E_cond_f rfl ?_
    refine E_exit ?_
    refine thenQ_e ?_
    refine thenQ_e ?_
    refine inB_eq rfl ?_
    refine thenQ_n ?_
    refine E_seqR ?_
    refine EL_val (R_assign rfl) rfl rfl rfl ?_
    refine EL_nil ?_
    refine E_ret ?_
    refine ret1 (.inr rfl) rfl rfl ?_
    exact ⟨rfl, bl7⟩
theorem order_row {H : Type} {enc : TypeId × Value → H} {W : World} {base : Nat} {v0 v1 v2 : Value} {d0 d1 d2 : DataW H} {p0 p1 p2 : List MemPlace} (k0 : Value.okWide Try.prog W .any base 22 v0) (h0 : DataW.Trod enc Try.prog W 0 (fun _ => true) true 22 v0 d0 p0)
    (k1 : Value.okWide Try.prog W .any base 23 v1) (h1 : DataW.Trod enc Try.prog W 0 (fun _ => true) true 23 v1 d1 p1) (k2 : Value.okWide Try.prog W .any base 24 v2) (h2 : DataW.Trod enc Try.prog W 0 (fun _ => true) true 24 v2 d2 p2) :
    Ret Try.prog 3 [v0, v1, v2] W fun r w' => r = .bool true ∧ Below W.heap.size W w' := by
  obtain ⟨A0, n0, c0, rfl⟩ := okWide_slice Try.underlying22 k0
  obtain ⟨A1, n1, c1, rfl⟩ := okWide_slice Try.underlying23 k1
  obtain ⟨A2, n2, c2, rfl⟩ := okWide_slice Try.underlying24 k2
  obtain ⟨f0, h0⟩ := h0
  obtain ⟨f1, h1⟩ := h1
  obtain ⟨f2, h2⟩ := h2
  obtain ⟨B0, T, c0', e0, hT⟩ := bytess_open h0
  obtain ⟨B1, a, c1', e1, ha⟩ := bytes_open h1
  obtain ⟨B2, ks, c2', e2, hk⟩ := ints_open h2
  rw [e0, e1, e2]
  exact order_walk hT ha hk
theorem diskOrder_own : ownKnob Try.prog.godebug = none := by kernel_rfl
theorem diskOrder_laidOut : laidOutB Try.prog = true := by kernel_rfl
set_option maxRecDepth 100000 in
theorem diskOrder_lifted (os : Os) (started : os.Started) (H : Type) (enc : TypeId × Value → H) :
    ReturnsInHanded {} Try.checked os 3 .any (Rows.diskOrderSpec.pre6 enc Try.prog Try.f3 Rows.diskOrderRow.domain false) (Rows.diskOrderSpec.post enc Try.prog Try.f3 false true false false) := by
  refine returnsInHanded_of_change (C := Try.checked) diskOrder_own started (by kernel_rfl) Try.func3
    (ChangeSpec.witness6 (enc := enc) (C := Try.checked) false ⟨#[], #[.slice none 0 0, .slice none 0 0, .slice none 0 0], []⟩ 8 (by kernel_rfl) (by kernel_rfl) (by kernel_rfl) (by kernel_rfl)) ?_
  intro W base args ds gs before hval0 hW hcnd _
  have hval : ∀ (j : Nat) t v, Try.f3.params[j]? = some t → args[j]? = some v → Value.okWide Try.prog W .any base t v := hval0
  have hW' := hW
  obtain ⟨p, q, hA0, hV, rfl, hfz, hnd⟩ := hW
  have hA : DataW.TrodAll enc Try.prog W 0 (fun _ => true) true Try.f3.params.toList args.toList ds p := hA0
  rw [Try.params3] at hA hval
  obtain ⟨v0, vs0, d0, ds0, p0, q0, hargs, rfl, rfl, h0, r0⟩ := trodAll_cons hA
  obtain ⟨v1, vs1, d1, ds1, p1, q1, rfl, rfl, rfl, h1, r1⟩ := trodAll_cons r0
  obtain ⟨v2, vs2, d2, ds2, p2, q2, rfl, rfl, rfl, h2, r2⟩ := trodAll_cons r1
  obtain ⟨rfl, rfl, rfl⟩ := trodAll_nil r2
  obtain rfl : args = #[v0, v1, v2] := by cases args; simp_all
  obtain ⟨rfl, rfl⟩ := trodVars_none hV
  have lt0 : ∀ x ∈ p0, x.block < W.heap.size := by obtain ⟨m, hm⟩ := h0; exact DataW.trod_lt m _ _ _ hm
  have lt1 : ∀ x ∈ p1, x.block < W.heap.size := by obtain ⟨m, hm⟩ := h1; exact DataW.trod_lt m _ _ _ hm
  have lt2 : ∀ x ∈ p2, x.block < W.heap.size := by obtain ⟨m, hm⟩ := h2; exact DataW.trod_lt m _ _ _ hm
  clear hA0 hval0
  refine Calls.mono (order_row (hval 0 22 v0 rfl rfl) h0 (hval 1 23 v1 rfl rfl) h1 (hval 2 24 v2 rfl rfl) h2) ?_
  rintro x W' ⟨v, rfl, rfl, bel⟩
  exact ⟨_, rfl, _, _, _, [], _, [], hW', trodAll_mk1 (shut_bool Try.underlying4 _), (trodAll_cons_mk (Below.trod diskOrder_laidOut (by kernel_rfl) (of_decide_eq_true (by kernel_rfl)) h0 bel lt0) (trodAll_cons_mk (Below.trod diskOrder_laidOut (by kernel_rfl) (of_decide_eq_true (by kernel_rfl)) h1 bel lt1) (trodAll_cons_mk (Below.trod diskOrder_laidOut (by kernel_rfl) (of_decide_eq_true (by kernel_rfl)) h2 bel lt2) trodAll_mk0))), rfl, bel.frame _, fun h => by cases h⟩
/-- THE STATEMENT -/
theorem diskOrder_holds : Rows.DiskOrderSaid :=
  OpenClaim.holds_of_wide 3 Try.f3 rfl rfl rfl rfl rfl rfl rfl ⟨rfl, rfl, rfl, rfl, rfl⟩ rfl rfl rfl rfl rfl (by kernel_rfl) Try.func3 (by kernel_rfl)
    (of_decide_eq_true (by kernel_rfl)) (by unfold Func.isWrapper; first | (rw [if_pos (by decide +kernel)]; kernel_rfl) | (rw [if_neg (by decide +kernel)]; exact ⟨rfl, rfl⟩))
    (fun os started H enc _ => diskOrder_lifted os started H enc)
#print axioms diskOrder_holds
end Go.Proofs.Ytphnhhcefoghpaa
