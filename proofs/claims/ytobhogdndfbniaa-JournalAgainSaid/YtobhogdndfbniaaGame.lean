/- drydocklaw16.begin and awake. -/
import Derived.Test.YtobhogdndfbniaaJInv
set_option linter.unusedVariables false
set_option linter.unusedSimpArgs false
set_option maxRecDepth 100000
namespace Go.Proofs.Ytobhogdndfbniaa
open Go.EW Go.RowKit

set_option maxHeartbeats 2000000 in
theorem begin_game {w : World} {n : Nat} (h1 : 64 ≤ n) (h2 : n ≤ 480) :
    Ret Try.prog 6 [.int .i64 (n : Int)] w fun v w' => ∃ g j d u1 u2, v = ptr g ∧ Bk w' g #[ptr d, ptr j, u1, u2, .bool false] 32 ∧ JAt w' w.heap.size d j (newJ n) ∧ Mods No w w' ∧ w.heap.size ≤ g := by
  obtain ⟨hg, hinv, hnS, hnn⟩ := new_inv h1 h2
  have hok : headOk ((0 : Nat) : Int) 1 = true := by decide
  have hbl := headB_length ((0 : Nat) : Int) 1
  obtain ⟨B, hB⟩ : ∃ B, B = w.heap.size := ⟨_, rfl⟩
  rw [← hB]
  have hgood : GoodW n [((1 : Int), headB ((0 : Nat) : Int) 1)] := fun p hp => by
    rw [List.mem_singleton.1 hp]
    exact ⟨by simp, by show (1 : Int) < (n : Int); omega, hbl⟩
  refine Ret.enter Try.func6 rfl Try.ntmps6 rfl ?_
  simp only [argEnv, Nat.reduceAdd]
  refine E_seqR ?_
  refine EL_val (R_assign rfl) rfl rfl rfl ?_
  refine EL_nil ?_
  refine E_seqR ?_
  refine EL_val (R_move rfl) rfl rfl rfl ?_
  refine EL_step rfl ?_
  refine EO_call K.bd12 rfl rfl (new_ok (B := B) (by omega) h2 (by omega)) ?_
  rintro _ w1 ⟨d, rfl, hD1, hm1⟩
  refine EL_val (R_move rfl) rfl rfl rfl ?_
  refine EL_val (R_extract rfl rfl) rfl rfl rfl ?_
  refine EL_val (R_extract rfl rfl) rfl rfl rfl ?_
  refine EL_val (R_assign rfl) rfl rfl rfl ?_
  refine EL_val (R_assign rfl) rfl rfl rfl ?_
  refine EL_nil ?_
  refine E_seqR ?_
  refine EL_val (R_build (cells := #[.int .i64 0, .int .i64 1]) K.zr46 K.pl46 rfl rfl) rfl rfl rfl ?_
  refine EL_step rfl ?_
  refine EO_call K.bd18 rfl rfl ((by have := refputhead_ok (w := w1) (a := ((0 : Nat) : Int)) (s := 1); rw [hok] at this; exact this)) ?_
  rintro _ w2 ⟨⟨u, rfl, ho⟩, hm2⟩
  (obtain ⟨Au, cu, rfl, _, _⟩ := own_sl ho; have hs1 := hm1.size; have hs2 := hm2.size; have hD2 := hD1.no hm2)
  refine EL_val (R_move rfl) rfl rfl rfl ?_
  refine EL_val (R_extract rfl rfl) rfl rfl rfl ?_
  refine EL_val (R_extract rfl rfl) rfl rfl rfl ?_
  refine EL_val (R_assign rfl) rfl rfl rfl ?_
  refine EL_val (R_assign rfl) rfl rfl rfl ?_
  refine EL_nil ?_
  refine E_seq ?_
  refine E_seqR ?_
  refine EL_val (R_move rfl) rfl rfl rfl ?_
  first | refine EL_val (R_neq_t rfl rfl (by omega)) rfl rfl rfl ?_ | refine EL_val (R_neq_f rfl rfl (by omega)) rfl rfl rfl ?_
  refine EL_val (R_move rfl) rfl rfl rfl ?_
  first | refine EL_val (R_move rfl) rfl rfl rfl ?_ | refine EL_not rfl rfl rfl ?_
  first | refine EL_val (R_neq_t rfl rfl (by omega)) rfl rfl rfl ?_ | refine EL_val (R_neq_f rfl rfl (by omega)) rfl rfl rfl ?_ | refine EL_not rfl rfl rfl ?_
  first | refine EL_val (R_pick_t rfl rfl) rfl rfl rfl ?_ | refine EL_val (R_pick_f rfl rfl) rfl rfl rfl ?_
  refine EL_val (R_move rfl) rfl rfl rfl ?_
  first | refine EL_val (R_move rfl) rfl rfl rfl ?_ | refine EL_not rfl rfl rfl ?_
  first | refine EL_val (R_eqlPtrNil rfl Try.underlying29) rfl rfl rfl ?_ | refine EL_not rfl rfl rfl ?_
  first | refine EL_val (R_pick_t rfl rfl) rfl rfl rfl ?_ | refine EL_val (R_pick_f rfl rfl) rfl rfl rfl ?_
  refine EL_val (R_move rfl) rfl rfl rfl ?_
  first | refine EL_val (R_move rfl) rfl rfl rfl ?_ | refine EL_not rfl rfl rfl ?_
  first | refine EL_val (R_move rfl) rfl rfl rfl ?_ | refine EL_not rfl rfl rfl ?_
  first | refine EL_val (R_build (cells := #[.int .i64 1, .slice Au (headB ((0 : Nat) : Int) 1).length cu]) K.zr35 K.pl35 rfl rfl) rfl rfl rfl ?_ | refine EL_not rfl rfl rfl ?_
  refine EL_step rfl ?_
  refine EO_buildSlice Try.underlying42 K.zr35 K.sz35 rfl rfl rfl (fill_whole rfl (by rw [size_madeCells])) rfl ?_
  intro w3 hn3
  (have hD3 := hD2.no hn3.mods; have ho3 := hn3.mods.own ho (fun _ _ h => h); have hs3 := hn3.size)
  refine EL_step rfl ?_
  refine EO_call K.bd16 rfl rfl (put_on hD3 ⟨rfl, rfl⟩ (by omega) (writes_one hn3.bk ho3) 1 hgood (fun i hi => by simp [newS])) ?_
  rintro _ w4 ⟨rfl, hD4, hm4⟩
  first | refine EL_val (R_neq_t rfl rfl (by omega)) rfl rfl rfl ?_ | refine EL_val (R_neq_f rfl rfl (by omega)) rfl rfl rfl ?_ | refine EL_not rfl rfl rfl ?_
  first | refine EL_val (R_pick_t rfl rfl) rfl rfl rfl ?_ | refine EL_val (R_pick_f rfl rfl) rfl rfl rfl ?_
  refine EL_val (R_move rfl) rfl rfl rfl ?_
  first | refine EL_val (R_move rfl) rfl rfl rfl ?_ | refine EL_not rfl rfl rfl ?_
  refine EL_step rfl ?_
  refine EO_call K.bd19 rfl rfl (barrier_on hD4 ⟨rfl, rfl⟩) ?_
  rintro _ w5 ⟨rfl, hD5, hm5⟩
  (have hs4 := hm4.size; have hs5 := hm5.size)
  first | refine EL_val (R_neq_t rfl rfl (by omega)) rfl rfl rfl ?_ | refine EL_val (R_neq_f rfl rfl (by omega)) rfl rfl rfl ?_ | refine EL_not rfl rfl rfl ?_
  first | refine EL_val (R_pick_t rfl rfl) rfl rfl rfl ?_ | refine EL_val (R_pick_f rfl rfl) rfl rfl rfl ?_
  refine EL_nil ?_
  refine E_cond_f rfl ?_
  refine E_skip ?_
  refine thenQ_n ?_
  refine E_seqR ?_
  refine EL_val (R_move rfl) rfl rfl rfl ?_
  refine EL_step rfl ?_
  refine EO_call K.bd10 rfl rfl (openj_some (S := freshS n) (a0 := 0) (s := 1) hD5 ⟨rfl, rfl⟩ (by omega) (by show ¬ n < 64; omega) (fun i hi => by rw [fresh_opn (n := n) hi]; simp) hg) ?_
  rintro _ w6 ⟨j, rfl, hj6, hjs, hm6⟩
  refine EL_val (R_move rfl) rfl rfl rfl ?_
  refine EL_val (R_extract rfl rfl) rfl rfl rfl ?_
  refine EL_val (R_extract rfl rfl) rfl rfl rfl ?_
  refine EL_val (R_assign rfl) rfl rfl rfl ?_
  refine EL_val (R_assign rfl) rfl rfl rfl ?_
  refine EL_nil ?_
  refine E_seq ?_
  refine E_seqR ?_
  refine EL_val (R_move rfl) rfl rfl rfl ?_
  first | refine EL_val (R_neq_t rfl rfl (by omega)) rfl rfl rfl ?_ | refine EL_val (R_neq_f rfl rfl (by omega)) rfl rfl rfl ?_
  refine EL_val (R_move rfl) rfl rfl rfl ?_
  first | refine EL_val (R_move rfl) rfl rfl rfl ?_ | refine EL_not rfl rfl rfl ?_
  first | refine EL_val (R_eqlPtrNil rfl Try.underlying30) rfl rfl rfl ?_ | refine EL_not rfl rfl rfl ?_
  first | refine EL_val (R_pick_t rfl rfl) rfl rfl rfl ?_ | refine EL_val (R_pick_f rfl rfl) rfl rfl rfl ?_
  refine EL_nil ?_
  refine E_cond_f rfl ?_
  refine E_skip ?_
  refine thenQ_n ?_
  refine E_seqR ?_
  refine EL_val (R_move rfl) rfl rfl rfl ?_
  refine EL_val (R_move rfl) rfl rfl rfl ?_
  refine EL_val (R_build (cells := #[ptr d, ptr j, .slice none 0 0, .slice none 0 0, .bool false]) K.zr32 K.pl32 rfl rfl) rfl rfl rfl ?_
  refine EL_step rfl ?_
  refine EO_box rfl rfl ?_
  intro w7 hn7
  refine EL_val (R_assign rfl) rfl rfl rfl ?_
  refine EL_nil ?_
  refine E_seq ?_
  refine E_seqR ?_
  refine EL_val (R_assign rfl) rfl rfl rfl ?_
  refine EL_nil ?_
  have hs6 := hm6.size
  have hno6 : Mods No w w6 := TM.no_of (hm1.trans (hm2.trans hn3.mods)) ((hm4.jt.trans hm5.jt).trans hm6) (by omega)
  have hno7 := hno6.trans hn7.mods
  have hj7 := hj6.no hn7.mods
  have hb7 := hn7.bk
  obtain ⟨g, hgg⟩ : ∃ g, g = w6.heap.size := ⟨_, rfl⟩
  have hgB : w.heap.size ≤ g := by have := hno6.size; omega
  rw [← hgg] at hb7 ⊢
  clear hm1 hm2 hn3 hm4 hm5 hm6 hn7 hD1 hD2 hD3 hD4 hD5 ho ho3 hj6 hno6
  refine E_cut (fun e0 w' => ∃ u, e0 = [(8, ptr g)] ∧ Mods No w w' ∧ JAt w' B d j (newJ n) ∧ Bk w' g #[ptr d, ptr j, u, .slice none 0 0, .bool false] 32 ∧ ∃ A c, u = .slice A n c) ?_ ?_
  · refine E_block ?_
    refine E_loop (fun m' e' w' => ∃ i u, i ≤ n ∧ m' = n - i ∧ e' = [(0, .int .i64 (n : Int)), (8, ptr g), (9, .int .i64 ((i : Nat) : Int))] ∧ Mods No w w' ∧ JAt w' B d j (newJ n) ∧ Bk w' g #[ptr d, ptr j, u, .slice none 0 0, .bool false] 32 ∧ w'.ownsRow B 9 1 u i (List.replicate i (.string (str (zerosB 64))))) n [(0, .int .i64 (n : Int)), (8, ptr g), (9, .int .i64 ((0 : Nat) : Int))] ⟨rfl, rfl, rfl, trivial⟩
      ⟨0, _, by omega, rfl, rfl, hno7, hj7, hb7, World.ownsRow_nil _ _ _ _⟩ ?_
    clear hno7 hj7 hb7
    rintro m' e w8 ⟨i, u, hi, rfl, rfl, hno8, hj8, hb8, hou⟩
    have hz8 := hno8.size
    by_cases hlt : i < n
    · refine E_seq ?_
      refine E_seqR ?_
      refine EL_val (R_move rfl) rfl rfl rfl ?_
      refine EL_val (R_move rfl) rfl rfl rfl ?_
      first | refine EL_val (R_lss_t rfl rfl (by omega)) rfl rfl rfl ?_ | refine EL_val (R_lss_f rfl rfl (by omega)) rfl rfl rfl ?_
      refine EL_nil ?_
      refine E_cond_t rfl ?_
      refine E_skip ?_
      refine thenQ_n ?_
      refine E_seq ?_
      refine E_block ?_
      refine E_regionD (fun _ => [(8, fun W => W.cell? ⟨g, 0 + 2, none⟩ = some u)]) 12 K.mix rfl ?_
      intro w12d hm12d hh12d
      (have hb9 := hm12d.bk' hb8; have hj9 := hj8.no hm12d; have hou9 := hm12d.own hou (fun _ _ h => h); have hz9 := hm12d.size)
      refine EA_pure 0 rfl (fun _ => R_move rfl) (by kernel_rfl) rfl rfl rfl ?_
      refine EA_pure 1 rfl (fun _ => R_move rfl) (by kernel_rfl) rfl rfl rfl ?_
      refine EA_pure 2 rfl (fun _ => R_nilCheck rfl) (by kernel_rfl) rfl rfl rfl ?_
      refine EA_pure 3 rfl (fun _ => R_fieldAddr rfl K.fT32_2) (by kernel_rfl) rfl rfl rfl ?_
      refine EA_load 4 0 [8, 9, 10, 11] rfl rfl K.ag27 rfl (by kernel_rfl) (by kernel_rfl) rfl rfl ?_
      refine EA_one 5 rfl (by kernel_rfl) rfl ⟨fun _ => hb9.cell rfl, trivial⟩ ?_
      refine EO_makeSlice 64 64 rfl rfl Try.underlying23 K.zr5 K.sz5 K.by5 (by first | rfl | omega) (by first | rfl | omega) (by omega) (by omega) (by omega) rfl ?_
      intro w10 hn10
      (have hb10 := hn10.mods.bk' hb9; have hj10 := hj9.no hn10.mods; have hou10 := hn10.mods.own hou9 (fun _ _ h => h); have hz10 := hn10.size; have hsrc : Src w10 (some ⟨w12d.heap.size, 0, none⟩) 64 1 ((zerosB 64).map fun b => Value.int .u8 (b.toNat : Int)) := Src.own (OB.new (base := B) hn10 (by omega) (by simp only [maxLen]; omega)))
      refine EA_one 6 rfl (by kernel_rfl) rfl ⟨fun _ => hb10.cell rfl, trivial⟩ ?_
      first | refine EO_val (R_bytesStr (l := zerosB 64) rfl hsrc rfl Try.underlying23 Try.underlying5 Try.underlying9) rfl rfl ?_
      skip
      refine EA_one 7 rfl (by kernel_rfl) rfl ⟨fun _ => hb10.cell rfl, trivial⟩ ?_
      refine EO_buildSlice Try.underlying27 K.zr9 K.sz9 rfl rfl rfl (fill_whole rfl (by rw [size_madeCells])) rfl ?_
      intro w11 hn11
      (have hb11 := hn11.mods.bk' hb10; have hj11 := hj10.no hn11.mods; have hou11 := hn11.mods.own hou10 (fun _ _ h => h); have hz11 := hn11.size)
      refine EA_one 8 rfl (by kernel_rfl) rfl ⟨fun _ => hb11.cell rfl, trivial⟩ ?_
      refine EO_append rfl rfl Try.underlying27 K.sz9 K.zr9 K.by9 rfl (by decide) hou11 (Src.bk hn11.bk 1 1 [.string (str (zerosB 64))] rfl (fun q u hq => by rw [Nat.zero_add]; show (#[.string (str (zerosB 64))] : Array Value)[q]? = some u; simpa using hq)) (by simp [Value.oneCell']) (by simp only [maxLen]; omega) (by omega) (by omega) rfl ?_
      intro v12 w12 ho12 hm12 hat12
      (obtain ⟨A12, c12, rfl, _, _⟩ := own_sl ho12; have hne : ∀ {g : Nat} {C : Array Value} {t : TypeId}, Bk w11 g C t → t ≠ 9 → ¬ (some g = u.ownBlock) := (fun hb ht e => (by obtain ⟨_, cur, hc⟩ := own_blk hou11 e.symm; exact ht (hb.inj hc).2)); have hb12 := hm12.bk hb11 (hne hb11 (by decide)))
      refine EA_pure 9 rfl (fun _ => R_nilCheck rfl) (by kernel_rfl) rfl rfl rfl ?_
      refine EA_pure 10 rfl (fun _ => R_fieldAddr rfl K.fT32_2) (by kernel_rfl) rfl rfl rfl ?_
      refine EA_one 11 rfl (by kernel_rfl) rfl (Holds.done (by kernel_rfl)) ?_
      refine EO_store1 rfl rfl K.sz27 rfl hb12 (by show 2 < 5; omega) ?_
      intro w13 hu13
      refine EA_done (by kernel_rfl) (Holds.done (by kernel_rfl)) ?_
      refine inB_n ?_
      refine thenQ_n ?_
      refine E_region ?_
      refine EL_val (R_move rfl) rfl rfl rfl ?_
      first | refine EL_val (R_inc rfl (by omega)) rfl rfl rfl ?_ | refine EL_val (R_add_in rfl rfl (by omega) (by omega)) rfl rfl rfl ?_
      refine EL_val (R_assign rfl) rfl rfl rfl ?_
      refine EL_nil ?_
      refine thenQ_n ?_
      have hj12 := hj11.mods hm12 fun i C t hb ht e => hne hb (by rintro rfl; revert ht; decide) e
      refine ⟨rfl, n - (i + 1), [(0, .int .i64 (n : Int)), (8, ptr g), (9, .int .i64 ((i + 1 : Nat) : Int))], by omega, ⟨rfl, rfl, rfl, trivial⟩, i + 1, _, by omega, rfl, rfl, ?_, hj12.upd hu13 hb12 (by decide), hu13.bk, ?_⟩
      · exact ((((hno8.trans hm12d).trans hn10.mods).trans hn11.mods).trans' hm12 fun k hk e => by have := (own_blk hou11 e.symm).1; omega).trans' hu13.mods fun k hk e => by omega
      · rw [List.replicate_succ']
        exact own_upd ho12 hu13 hb12 (by decide)
    · have hi' : i = n := by omega
      subst hi'
      obtain ⟨Au, cu, rfl, _, _⟩ := own_sl hou
      refine E_seq ?_
      refine E_seqR ?_
      refine EL_val (R_move rfl) rfl rfl rfl ?_
      refine EL_val (R_move rfl) rfl rfl rfl ?_
      first | refine EL_val (R_lss_t rfl rfl (by omega)) rfl rfl rfl ?_ | refine EL_val (R_lss_f rfl rfl (by omega)) rfl rfl rfl ?_
      refine EL_nil ?_
      refine E_cond_f rfl ?_
      refine E_exit ?_
      refine thenQ_e ?_
      refine thenQ_e ?_
      refine inB_eq rfl ?_
      refine thenQ_n ?_
      exact ⟨rfl, [(8, ptr g)], ⟨rfl, trivial⟩, _, rfl, hno8, hj8, hb8, Au, cu, rfl⟩
  clear hno7 hj7 hb7
  rintro e0 w8 ⟨u, rfl, hno8, hj8, hb8, A8, c8, rfl⟩

  refine E_seqR ?_
  refine EL_val (R_move rfl) rfl rfl rfl ?_
  refine EL_val (R_move rfl) rfl rfl rfl ?_
  refine EL_val (R_nilCheck rfl) rfl rfl rfl ?_
  refine EL_val (R_fieldAddr rfl K.fT32_2) rfl rfl rfl ?_
  refine EL_val (R_load rfl K.ag27 (hb8.cell rfl)) rfl rfl rfl ?_
  refine EL_val (R_nilCheck rfl) rfl rfl rfl ?_
  refine EL_val (R_fieldAddr rfl K.fT32_3) rfl rfl rfl ?_
  refine EL_step rfl ?_
  refine EO_store1 rfl rfl K.sz27 rfl hb8 (by show 3 < 5; omega) ?_
  intro w9 hu9
  refine EL_nil ?_
  refine E_seqR ?_
  refine EL_val (R_move rfl) rfl rfl rfl ?_
  refine EL_val (R_assign rfl) rfl rfl rfl ?_
  refine EL_nil ?_
  refine E_ret ?_
  refine ret1 (.inr rfl) rfl rfl ?_
  exact ⟨g, j, d, _, _, rfl, hu9.bk, hj8.upd hu9 hb8 (by decide), hno8.trans' hu9.mods (fun k hk e => by omega), by omega⟩
/-- a game's journal is another -/
theorem game_next {w w' : World} {g d j j' : Nat} {u1 u2 : Value} (hu : Upd w w' g (#[ptr d, ptr j, u1, u2, .bool false].setIfInBounds (0 + 1) (ptr j')) 32) : Bk w' g #[ptr d, ptr j', u1, u2, .bool false] 32 := hu.bk
theorem one9 : ((zerosB 64).set 5 9).length = 64 := by decide
/-- one block committed -/
theorem commit_one {J : JS} {V : Nat → List UInt8} (h : Inv J V) {i : Nat} {b : List UInt8} (hb : b.length = 64) (hi : i < J.st.n) (hh : homeN i) (hnS : J.nS < 1073741824) :
    GoodW J.st.n [((i : Int), b)] ∧ soundS J.nS (tosL [((i : Int), b)]) = true ∧ Inv (commitJ J [((i : Int), b)]) (fun k => if k = i then b else V k) ∧ (commitJ J [((i : Int), b)]).nS = J.nS + 1 ∧ (commitJ J [((i : Int), b)]).st.n = J.st.n := by
  have h480 := h.n2
  have hS1 := h.hS
  have hle := h.hle
  have hgood : GoodW J.st.n [((i : Int), b)] := fun p hp => by
    rw [List.mem_singleton.1 hp]
    exact ⟨by omega, by show (i : Int) < _; omega, hb⟩
  have hhome : homeS (i : Int) = true := by
    unfold homeN at hh
    unfold homeS
    rw [decide_eq_true_eq]
    omega
  have hs : soundS J.nS (tosL [((i : Int), b)]) = true := by
    unfold soundS tosL
    simp only [Bool.and_eq_true, decide_eq_true_eq, List.all_eq_true]
    refine ⟨⟨fun k hk => ?_, by omega⟩, by simp⟩
    have hk0 : k = 0 := by simpa using hk
    subst hk0
    unfold goodAt
    simp [hhome]
  obtain ⟨h1, h2, h3⟩ := h.commit (by simp) hgood hs hnS
  refine ⟨hgood, hs, ?_, h2, h3⟩
  have e : updV V [((i : Int), b)] = fun k => if k = i then b else V k := by
    funext k
    unfold updV
    rw [lastW_one]
    show (if (i : Int).toNat = k then some b else none).getD (V k) = _
    by_cases hk : k = i
    · subst hk; simp
    · rw [if_neg (by omega), if_neg hk]; rfl
  rw [e] at h1
  exact h1
theorem Inv.now {J : JS} {V : Nat → List UInt8} (h : Inv J V) {i : Nat} (hi : i < J.st.n) (hh : homeN i) : nowS J.st i = V i := by
  obtain ⟨T, _, _, _, hV⟩ := h.found
  exact (hV i hi hh).1
set_option maxHeartbeats 1000000 in
theorem awake16_ok {w : World} : Ret Try.prog 7 [] w fun v w' => v = .bool true ∧ Mods No w w' := by
  obtain ⟨b, hb⟩ : ∃ b, b = (zerosB 64).set 5 9 := ⟨_, rfl⟩
  have hbl : b.length = 64 := by rw [hb]; exact one9
  have h70 : ∃ J, (∀ w : World, Ret Try.prog 6 [.int .i64 ((70 : Nat) : Int)] w fun v w' => ∃ g j d u1 u2, v = ptr g ∧ Bk w' g #[ptr d, ptr j, u1, u2, .bool false] 32 ∧ JAt w' w.heap.size d j J ∧ Mods No w w' ∧ w.heap.size ≤ g) ∧ Inv J (fun _ => zerosB 64) ∧ J.nS = 1 ∧ J.st.n = 70 :=
    ⟨newJ 70, fun w => begin_game (by omega) (by omega), (new_inv (n := 70) (by omega) (by omega)).2⟩
  obtain ⟨J, hgb, hinv, hnS, hnn⟩ := h70
  have hone := commit_one hinv (i := 60) hbl (by omega) (by unfold homeN; omega) (by omega)
  obtain ⟨hgood, hs, hc1, hc2, hc3⟩ := hone
  have hnow := hc1.now (i := 60) (by omega) (by unfold homeN; omega)
  simp only [if_true] at hnow
  obtain ⟨J1, hJ1⟩ : ∃ J1, J1 = commitJ J [(((60 : Nat) : Int), b)] := ⟨_, rfl⟩
  have hcm := fun {w : World} {B d j : Nat} (h : JAt w B d j J) (hB : B ≤ w.heap.size) {A : Option Addr} {c base b1 : Nat} {xs : List Value} (how : w.ownsRow base 35 2 (.slice A 1 c) 1 xs) (hwl : WLo w b1 [(((60 : Nat) : Int), b)] xs) => commit_ok (L := [(((60 : Nat) : Int), b)]) h hB hinv.nA hinv.n1 (by have := hinv.used; omega) ⟨by omega, by omega⟩ (fun i hi => by have := hinv.few i hi; omega) how hwl (by simp) (by simp) hgood hs
  rw [← hJ1] at hc1 hc2 hc3 hnow hcm
  obtain ⟨B, hB⟩ : ∃ B, B = w.heap.size := ⟨_, rfl⟩
  refine Ret.enter Try.func7 rfl Try.ntmps7 rfl ?_
  simp only [argEnv, Nat.reduceAdd]
  refine E_seqR ?_
  refine EL_val (R_assign rfl) rfl rfl rfl ?_
  refine EL_nil ?_
  refine E_seqR ?_
  refine EL_step rfl ?_
  refine EO_call K.bd6 rfl rfl (hgb _) ?_
  rintro _ w1 ⟨g, j, d, u1, u2, rfl, hg1, hj1, hm1, hgB⟩
  (have hs1 := hm1.size)
  refine EL_val (R_assign rfl) rfl rfl rfl ?_
  refine EL_nil ?_
  refine E_seq ?_
  refine E_seqR ?_
  refine EL_val (R_move rfl) rfl rfl rfl ?_
  refine EL_val (R_eqlPtrNil rfl Try.underlying24) rfl rfl rfl ?_
  refine EL_nil ?_
  refine E_cond_f rfl ?_
  refine E_skip ?_
  refine thenQ_n ?_
  refine E_seqR ?_
  refine EL_step rfl ?_
  refine EO_makeSlice 64 64 rfl rfl Try.underlying23 K.zr5 K.sz5 K.by5 (by first | rfl | omega) (by first | rfl | omega) (by omega) (by omega) (by omega) rfl ?_
  intro w2 hn2
  refine EL_val (R_assign rfl) rfl rfl rfl ?_
  refine EL_nil ?_
  refine E_seqR ?_
  refine EL_val (R_move rfl) rfl rfl rfl ?_
  refine EL_val (R_indexAddr rfl rfl Try.underlying23 K.sz5 (m := 5) rfl (by omega)) rfl rfl rfl ?_
  refine EL_step rfl ?_
  refine EO_store1 rfl rfl K.sz5 rfl hn2.bk (by rw [size_madeCells]; omega) ?_
  intro w3 hu3
  (have hno13 : Mods No w1 w3 := hn2.mods.trans' hu3.mods (fun k hk e => by omega); have hs2 := hn2.size; have hs3 := hu3.size; have hob3 : OB w1.heap.size w3 (.slice (some ⟨w1.heap.size, 0, none⟩) b.length 64) b := (by rw [hbl, hb]; exact OB.set1 (b := 9) (OB.new hn2 (Nat.le_refl _) (by simp only [maxLen]; omega)) rfl hn2.bk hu3 (by omega)); have hg3 := hno13.bk' hg1; have hj3 := hj1.no hno13)
  refine EL_nil ?_
  refine E_seqR ?_
  refine EL_val (R_move rfl) rfl rfl rfl ?_
  refine EL_val (R_nilCheck rfl) rfl rfl rfl ?_
  refine EL_val (R_fieldAddr rfl K.fT32_1) rfl rfl rfl ?_
  refine EL_val (R_load rfl K.ag30 (hg3.cell rfl)) rfl rfl rfl ?_
  refine EL_val (R_move rfl) rfl rfl rfl ?_
  refine EL_val (R_build (cells := #[.int .i64 60, .slice (some ⟨w1.heap.size, 0, none⟩) 64 64]) K.zr35 K.pl35 rfl rfl) rfl rfl rfl ?_
  refine EL_step rfl ?_
  refine EO_buildSlice Try.underlying42 K.zr35 K.sz35 rfl rfl rfl (fill_whole rfl (by rw [size_madeCells])) rfl ?_
  intro w4 hn4
  (have hj4 := hj3.no hn4.mods; have hs4 := hn4.size; have hob4 := hn4.mods.own hob3 (fun _ _ h => h); have how4 : w4.ownsRow w3.heap.size 35 2 (.slice (some ⟨w3.heap.size, 0, none⟩) 1 1) 1 [.int .i64 60, .slice (some ⟨w1.heap.size, 0, none⟩) b.length 64] := (by rw [hbl]; exact hn4.own (m := 1) (size := 2) rfl (Nat.le_refl _) (by simp only [maxLen]; omega)); have hwl4 : WLo w4 w1.heap.size [(((60 : Nat) : Int), b)] [.int .i64 60, .slice (some ⟨w1.heap.size, 0, none⟩) b.length 64] := ⟨⟨rfl, hob4⟩, trivial⟩)
  refine EL_step rfl ?_
  refine EO_call K.bd8 rfl rfl (hcm hj4 (by omega) how4 hwl4) ?_
  rintro _ w5 ⟨rfl, hj5, hm5⟩
  (have hg5 := hm5.bk (hn4.mods.bk' hg3) (by decide); have hs5 := hm5.size)
  refine EL_val (R_assign rfl) rfl rfl rfl ?_
  refine EL_nil ?_
  refine E_seqR ?_
  refine EL_val (R_move rfl) rfl rfl rfl ?_
  refine EL_val (R_nilCheck rfl) rfl rfl rfl ?_
  refine EL_val (R_fieldAddr rfl K.fT32_1) rfl rfl rfl ?_
  refine EL_val (R_load rfl K.ag30 (hg5.cell rfl)) rfl rfl rfl ?_
  refine EL_step rfl ?_
  refine EO_call K.bd11 rfl rfl ((by have := read_ok hj5 (i := 60) (by omega); rw [hnow] at this; exact this)) ?_
  rintro _ w6 ⟨⟨u6, rfl, ho6⟩, hj6, hm6⟩
  (obtain ⟨gu, cu, rfl, _, _, _, _, hbu⟩ := ho6.form (by omega); have hc5 : w6.cell? ⟨gu, 0 + 5 * 1, none⟩ = some (.int .u8 9) := (by obtain ⟨g', o', hA, hcc⟩ := hbu.cell (i := 5) (by omega); injection hA with hA; injection hA with k1 k2 _; subst k1; subst k2; rw [hcc]; subst hb; rfl); have hg6 := hm6.bk hg5 (by decide))
  refine EL_val (R_move rfl) rfl rfl rfl ?_
  refine EL_val (R_extract rfl rfl) rfl rfl rfl ?_
  refine EL_val (R_extract rfl rfl) rfl rfl rfl ?_
  refine EL_val (R_assign rfl) rfl rfl rfl ?_
  refine EL_val (R_assign rfl) rfl rfl rfl ?_
  refine EL_nil ?_
  refine E_seqR ?_
  refine EL_val (R_move rfl) rfl rfl rfl ?_
  first | refine EL_val (R_eql_t rfl rfl (by omega)) rfl rfl rfl ?_ | refine EL_val (R_eql_f rfl rfl (by omega)) rfl rfl rfl ?_
  refine EL_val (R_move rfl) rfl rfl rfl ?_
  first | refine EL_val (R_move rfl) rfl rfl rfl ?_ | refine EL_not rfl rfl rfl ?_
  first | refine EL_val (R_eql_t rfl rfl (by omega)) rfl rfl rfl ?_ | refine EL_val (R_eql_f rfl rfl (by omega)) rfl rfl rfl ?_ | refine EL_not rfl rfl rfl ?_
  first | refine EL_val (R_pick_t rfl rfl) rfl rfl rfl ?_ | refine EL_val (R_pick_f rfl rfl) rfl rfl rfl ?_
  refine EL_val (R_move rfl) rfl rfl rfl ?_
  first | refine EL_val (R_move rfl) rfl rfl rfl ?_ | refine EL_not rfl rfl rfl ?_
  first | refine EL_val (R_lenSlice rfl Try.underlying23) rfl rfl rfl ?_ | refine EL_not rfl rfl rfl ?_
  first | refine EL_val (R_eql_t rfl rfl (by omega)) rfl rfl rfl ?_ | refine EL_val (R_eql_f rfl rfl (by omega)) rfl rfl rfl ?_ | refine EL_not rfl rfl rfl ?_
  first | refine EL_val (R_pick_t rfl rfl) rfl rfl rfl ?_ | refine EL_val (R_pick_f rfl rfl) rfl rfl rfl ?_
  refine EL_val (R_move rfl) rfl rfl rfl ?_
  first | refine EL_val (R_move rfl) rfl rfl rfl ?_ | refine EL_not rfl rfl rfl ?_
  first | refine EL_val (R_indexAddr rfl rfl Try.underlying23 K.sz5 (m := 5) rfl (by omega)) rfl rfl rfl ?_ | refine EL_not rfl rfl rfl ?_
  first | refine EL_val (R_load rfl K.ag5 (hc5)) rfl rfl rfl ?_ | refine EL_not rfl rfl rfl ?_
  first | refine EL_val (R_eql_t rfl rfl (by omega)) rfl rfl rfl ?_ | refine EL_val (R_eql_f rfl rfl (by omega)) rfl rfl rfl ?_ | refine EL_not rfl rfl rfl ?_
  first | refine EL_val (R_pick_t rfl rfl) rfl rfl rfl ?_ | refine EL_val (R_pick_f rfl rfl) rfl rfl rfl ?_
  refine EL_val (R_move rfl) rfl rfl rfl ?_
  first | refine EL_val (R_move rfl) rfl rfl rfl ?_ | refine EL_not rfl rfl rfl ?_
  first | refine EL_val (R_nilCheck rfl) rfl rfl rfl ?_ | refine EL_not rfl rfl rfl ?_
  first | refine EL_val (R_fieldAddr rfl K.fT32_1) rfl rfl rfl ?_ | refine EL_not rfl rfl rfl ?_
  first | refine EL_val (R_load rfl K.ag30 (hg6.cell rfl)) rfl rfl rfl ?_ | refine EL_not rfl rfl rfl ?_
  refine EL_step rfl ?_
  refine EO_call K.bd13 rfl rfl (head_ok hj6) ?_
  rintro _ w7 ⟨rfl, hm7⟩
  first | refine EL_val (R_field rfl K.fT46_1 (fun fs fl h1 h2 => by rw [Try.underlying46] at h1; cases h1; cases h2; exact K.ag3) rfl) rfl rfl rfl ?_ | refine EL_not rfl rfl rfl ?_
  first | refine EL_val (R_gtr_t rfl rfl (by omega)) rfl rfl rfl ?_ | refine EL_val (R_gtr_f rfl rfl (by omega)) rfl rfl rfl ?_ | refine EL_not rfl rfl rfl ?_
  first | refine EL_val (R_pick_t rfl rfl) rfl rfl rfl ?_ | refine EL_val (R_pick_f rfl rfl) rfl rfl rfl ?_
  refine EL_val (R_assign rfl) rfl rfl rfl ?_
  refine EL_nil ?_
  refine E_ret ?_
  refine ret1 (.inr rfl) rfl rfl ?_
  exact ⟨rfl, TM.no_of ((hm1.trans hno13).trans hn4.mods) ((hm5.trans hm6).trans (TM.of_no hm7)) (Nat.le_refl _)⟩
end Go.Proofs.Ytobhogdndfbniaa
