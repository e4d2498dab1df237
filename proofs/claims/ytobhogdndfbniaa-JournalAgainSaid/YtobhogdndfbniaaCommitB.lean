/- The journal commits (journal.Commit). -/
import Derived.Test.YtobhogdndfbniaaWrite
set_option linter.unusedVariables false
set_option linter.unusedSimpArgs false
set_option maxRecDepth 100000
namespace Go.Proofs.Ytobhogdndfbniaa
open Go.EW Go.RowKit

theorem commit_nil {w : World} {v : Value} : Ret Try.prog 8 [.pointer none, v] w fun v w' => v = .int .i64 1 ∧ Mods No w w' := by
  refine Ret.enterQ Try.func8 rfl Try.ntmps8 rfl ?_
  simp only [argEnv, Nat.reduceAdd]
  refine E_seqR ?_
  refine EL_step rfl ?_
  refine EO_box rfl rfl ?_
  intro w1 hn1
  refine EL_step rfl ?_
  refine EO_alloc K.zr28 rfl ?_
  intro w2 hn2
  refine EL_nil ?_
  refine E_seq ?_
  refine E_block ?_
  refine E_seqR ?_
  refine EL_val (R_load rfl K.ag30 ((hn2.mods.bk' hn1.bk).cell rfl)) rfl rfl rfl ?_
  refine EL_val (R_eqlPtrNil rfl Try.underlying30) rfl rfl rfl ?_
  refine EL_val (R_assign rfl) rfl rfl rfl ?_
  refine EL_nil ?_
  refine E_cond_t rfl ?_
  refine E_seqR ?_
  refine EL_step rfl ?_
  refine EO_store1 rfl rfl K.sz28 rfl hn2.bk (by show 0 < 1; omega) ?_
  intro w3 hu3
  refine EL_nil ?_
  refine E_ret ?_
  refine inB_r (thenQ_r ?_)
  refine retQ_c0 (.inr rfl) rfl rfl K.ag28 (hu3.bk.cell rfl) ⟨rfl, (hn1.mods.trans hn2.mods).trans' hu3.mods fun k hk e => by have := hn1.size; omega⟩
/-- what is called at the end: with power for ever nothing changes -/
theorem dead_ok {w : World} {B d j b4 b2 : Nat} {J : JS} (h : JAt w B d j J) (h4 : Bk w b4 #[.int .i64 0] 28) (h2 : Bk w b2 #[ptr j] 30) :
    RetD Try.prog 23 [ptr b4, ptr b2] w fun _ w' => JAt w' B d j J ∧ TM JT B w w' := by
  refine RetD.enter Try.func23 rfl Try.ntmps23 rfl ?_
  simp only [argEnv, Nat.reduceAdd]
  refine E_region ?_
  refine EL_val (R_load rfl K.ag30 (h2.cell rfl)) rfl rfl rfl ?_
  refine EL_val (R_load rfl K.ag28 (h4.cell rfl)) rfl rfl rfl ?_
  first | refine EL_val (R_eql_t rfl rfl (by omega)) rfl rfl rfl ?_ | refine EL_val (R_eql_f rfl rfl (by omega)) rfl rfl rfl ?_
  refine EL_val (R_nilCheck rfl) rfl rfl rfl ?_
  refine EL_val (R_fieldAddr rfl K.fT59_4) rfl rfl rfl ?_
  refine EL_step rfl ?_
  refine EO_store1 rfl rfl K.sz4 rfl h.bj (by show 6 < 7; omega) ?_
  intro w1 hu1
  refine EL_nil ?_
  refine ret0 (.inl rfl) rfl ?_
  exact ⟨⟨hu1.bk, h.disk.mods hu1.mods fun i hf e => by subst e; exact foot_not h.bj (by decide) hf, h.free, h.le⟩, TM.upd hu1 h.bj h.le (by decide)⟩
def tosL (L : List (Int × List UInt8)) : List Int := L.map (·.1)
theorem tosL_length (L : List (Int × List UInt8)) : (tosL L).length = L.length := by simp [tosL]
def roomJ (J : JS) (m : Nat) : JS := if 40 < J.used + m + 3 then ⟨moveS J.st J.nA J.nS, J.nA, J.nS, J.nA, J.nS, 0⟩ else J
def commitJ (J : JS) (L : List (Int × List UInt8)) : JS := writeJ (roomJ J L.length) L (beginB J.nS (tosL L)) (endB J.nS (L.length : Int))
set_option maxHeartbeats 4000000 in
theorem commit_ok {w : World} {B d j : Nat} {J : JS} (h : JAt w B d j J) (hB : B ≤ w.heap.size) (hA : J.nA < 40) (hn : 64 ≤ J.st.n) (hu30 : J.used ≤ 1000) (hS30 : 1 ≤ J.nS ∧ J.nS < 1073741824) (hroom : ∀ i, i < J.st.n → (J.st.opn i).length ≤ 1000) {A : Option Addr} {L : List (Int × List UInt8)} {c base b1 : Nat} {xs : List Value} (how : w.ownsRow base 35 2 (.slice A L.length c) L.length xs) (hwl : WLo w b1 L xs)
    (hL1 : 1 ≤ L.length) (hL20 : L.length ≤ 20) (hg : GoodW J.st.n L) (hs : soundS J.nS (tosL L) = true) :
    Ret Try.prog 8 [ptr j, .slice A L.length c] w fun v w' => v = .int .i64 0 ∧ JAt w' B d j (commitJ J L) ∧ TM JT B w w' := by
  obtain ⟨ga, capa, _, hvA, _⟩ := own_form how (by omega)
  injection hvA with hvA hx1 hx2
  subst hvA
  have hend : endOk J.nS (L.length : Int) = true := by unfold endOk; rw [decide_eq_true_eq]; omega
  have hbl := beginB_length J.nS (tosL L) (by rw [tosL_length]; omega)
  have hel := endB_length J.nS (L.length : Int)
  refine Ret.enterQ Try.func8 rfl Try.ntmps8 rfl ?_
  simp only [argEnv, Nat.reduceAdd]
  refine E_seqR ?_
  refine EL_step rfl ?_
  refine EO_box rfl rfl ?_
  intro w1 hn1
  refine EL_step rfl ?_
  refine EO_alloc K.zr28 rfl ?_
  intro w2 hn2
  (have hb2 := hn2.mods.bk' hn1.bk; have h2 := (h.no hn1.mods).no hn2.mods)
  refine EL_nil ?_
  refine E_seq ?_
  refine E_block ?_
  refine E_seqR ?_
  refine EL_val (R_load rfl K.ag30 (hb2.cell rfl)) rfl rfl rfl ?_
  refine EL_val (R_eqlPtrNil rfl Try.underlying30) rfl rfl rfl ?_
  refine EL_val (R_assign rfl) rfl rfl rfl ?_
  refine EL_nil ?_
  refine E_cond_f rfl ?_
  refine E_seqR ?_
  refine EL_val (R_load rfl K.ag30 (hb2.cell rfl)) rfl rfl rfl ?_
  refine EL_val (R_nilCheck rfl) rfl rfl rfl ?_
  refine EL_val (R_fieldAddr rfl K.fT59_4) rfl rfl rfl ?_
  refine EL_val (R_load rfl K.ag4 (h2.bj.cell rfl)) rfl rfl rfl ?_
  refine EL_val (R_assign rfl) rfl rfl rfl ?_
  refine EL_nil ?_
  refine E_cond_f rfl ?_
  refine E_seqR ?_
  refine EL_val (R_move rfl) rfl rfl rfl ?_
  refine EL_val (R_lenSlice rfl Try.underlying42) rfl rfl rfl ?_
  first | refine EL_val (R_eql_t rfl rfl (by omega)) rfl rfl rfl ?_ | refine EL_val (R_eql_f rfl rfl (by omega)) rfl rfl rfl ?_
  refine EL_val (R_assign rfl) rfl rfl rfl ?_
  refine EL_nil ?_
  refine E_cond_f rfl ?_
  refine E_seqR ?_
  refine EL_val (R_move rfl) rfl rfl rfl ?_
  refine EL_val (R_lenSlice rfl Try.underlying42) rfl rfl rfl ?_
  first | refine EL_val (R_gtr_t rfl rfl (by omega)) rfl rfl rfl ?_ | refine EL_val (R_gtr_f rfl rfl (by omega)) rfl rfl rfl ?_
  refine EL_val (R_assign rfl) rfl rfl rfl ?_
  refine EL_nil ?_
  refine E_cond_f rfl ?_
  refine E_seqR ?_
  refine EL_val (R_load rfl K.ag30 (hb2.cell rfl)) rfl rfl rfl ?_
  refine EL_val (R_nilCheck rfl) rfl rfl rfl ?_
  refine EL_val (R_fieldAddr rfl K.fT59_2) rfl rfl rfl ?_
  refine EL_val (R_fieldAddr rfl K.fT46_1) rfl rfl rfl ?_
  refine EL_val (R_load rfl K.ag3 (h2.bj.cell rfl)) rfl rfl rfl ?_
  first | refine EL_val (R_geq_t rfl rfl (by omega)) rfl rfl rfl ?_ | refine EL_val (R_geq_f rfl rfl (by omega)) rfl rfl rfl ?_
  refine EL_val (R_assign rfl) rfl rfl rfl ?_
  refine EL_nil ?_
  refine E_cond_f rfl ?_
  refine E_skip ?_
  refine inB_n ?_
  refine thenQ_n ?_
  refine E_seqR ?_
  refine EL_val (R_load rfl K.ag30 (hb2.cell rfl)) rfl rfl rfl ?_
  refine EL_val (R_nilCheck rfl) rfl rfl rfl ?_
  refine EL_val (R_fieldAddr rfl K.fT59_2) rfl rfl rfl ?_
  refine EL_val (R_fieldAddr rfl K.fT46_1) rfl rfl rfl ?_
  refine EL_val (R_load rfl K.ag3 (h2.bj.cell rfl)) rfl rfl rfl ?_
  refine EL_val (R_build (cells := #[.int .i64 J.nS, .slice none 0 0]) K.zr61 K.pl61 rfl rfl) rfl rfl rfl ?_
  refine EL_step rfl ?_
  refine EO_alloc K.zr61 rfl ?_
  intro w3 hn3
  refine EL_step rfl ?_
  refine EO_storeWhole hn3.bk rfl rfl K.sz61 rfl rfl ?_
  intro w4 hu4
  refine EL_nil ?_
  refine E_seq ?_
  refine E_seqR ?_
  refine EL_val (R_move rfl) rfl rfl rfl ?_
  refine EL_val (R_lenSlice rfl Try.underlying42) rfl rfl rfl ?_
  refine EL_val (R_move rfl) rfl rfl rfl ?_
  refine EL_nil ?_
  have hs1 := hn1.size
  have hs2 := hn2.size
  have hs3 := hn3.size
  have hs4 := hu4.size
  obtain ⟨b2, hbb2⟩ : ∃ b2, b2 = w.heap.size := ⟨_, rfl⟩
  obtain ⟨b4, hbb4⟩ : ∃ b4, b4 = w1.heap.size := ⟨_, rfl⟩
  obtain ⟨b5, hbb5⟩ : ∃ b5, b5 = w2.heap.size := ⟨_, rfl⟩
  have hb4 := hn2.bk
  have hno2 : Mods No w w2 := hn1.mods.trans hn2.mods
  have hno4 : Mods No w2 w4 := hn3.mods.trans' hu4.mods fun k hk e => by omega
  have hb5 := hu4.bk
  have how2 := hno2.own how fun _ _ h => h
  have hwl2 := hwl.mods hno2 fun _ _ _ h => h
  rw [← hbb2] at hb2 ⊢
  rw [← hbb4] at hb4 ⊢
  rw [← hbb5] at hb5 ⊢
  clear hn1 hn2 hn3 hu4
  refine E_cut (fun e0 w' => ∃ u, e0 = [(1, .slice (some ⟨ga, 0, none⟩) L.length c), (2, ptr b2), (4, ptr b4), (5, ptr b5)] ∧ Mods No w2 w' ∧ Bk w' b5 #[.int .i64 J.nS, u] 61 ∧ w'.ownsRow w2.heap.size 3 1 u L.length (ival (tosL L))) ?_ ?_
  · refine E_block ?_
    refine E_loop (fun m' e' w' => ∃ i u, i ≤ L.length ∧ m' = L.length - i ∧ e' = [(1, .slice (some ⟨ga, 0, none⟩) L.length c), (2, ptr b2), (4, ptr b4), (5, ptr b5), (41, .slice (some ⟨ga, 0, none⟩) L.length c), (42, .int .i64 (L.length : Int)), (43, .int .i64 ((i : Nat) : Int))] ∧ Mods No w2 w' ∧ Bk w' b5 #[.int .i64 J.nS, u] 61 ∧ w'.ownsRow w2.heap.size 3 1 u i (ival ((tosL L).take i))) L.length [(1, .slice (some ⟨ga, 0, none⟩) L.length c), (2, ptr b2), (4, ptr b4), (5, ptr b5), (41, .slice (some ⟨ga, 0, none⟩) L.length c), (42, .int .i64 (L.length : Int)), (43, .int .i64 ((0 : Nat) : Int))] ⟨rfl, rfl, rfl, rfl, rfl, rfl, rfl, trivial⟩
      ⟨0, _, by omega, by omega, rfl, hno4, hb5, World.ownsRow_nil _ _ _ _⟩ ?_
    clear hno4 hb5 hs3 hs4
    clear w3 w4
    rintro m' e w3 ⟨i, u, hi, rfl, rfl, hno3, hb5, hou⟩
    by_cases hlt : i < L.length
    · have hs3 := hno3.size
      obtain ⟨y, hx0, hx1', hy2⟩ := hwl2.at_ i hlt
      obtain ⟨Ay, cy, rfl, _, _⟩ := own_sl hy2
      have hgi := hg L[i] (List.getElem_mem hlt)
      have htk : ival ((tosL L).take (i + 1)) = ival ((tosL L).take i) ++ [.int .i64 L[i].1] := by
        rw [List.take_succ_eq_append_getElem (by rw [tosL_length]; exact hlt)]
        simp [ival, tosL]
      rcases hpp : L[i] with ⟨a, l⟩
      rw [hpp] at hx0 hx1' hy2 hgi htk
      dsimp only at hx0 hx1' hy2 hgi htk
      have h3 := h2.no hno3
      have hb5lt := hb5.lt

      refine E_seqR ?_
      first | refine EL_val (R_lss_t rfl rfl (by omega)) rfl rfl rfl ?_ | refine EL_val (R_lss_f rfl rfl (by omega)) rfl rfl rfl ?_
      refine EL_nil ?_
      refine E_seq ?_
      refine E_cond_t rfl ?_
      refine E_skip ?_
      refine thenQ_n ?_
      refine E_seq ?_
      refine E_block ?_
      refine E_seqR ?_
      refine EL_val (R_indexAddr rfl rfl Try.underlying42 K.sz35 (m := i) rfl hlt) rfl rfl rfl ?_
      refine EL_val (R_loadAgg rfl K.ag35 (own_cells2 (hno3.own how2 fun _ _ h => h) hx0 hx1') (K.sz35)) rfl rfl rfl ?_
      refine EL_step rfl ?_
      refine EO_alloc K.zr35 rfl ?_
      intro w5 hn5
      refine EL_step rfl ?_
      refine EO_storeWhole hn5.bk rfl rfl K.sz35 rfl rfl ?_
      intro w6 hu6
      (have hno36 : Mods No w3 w6 := hn5.mods.trans' hu6.mods (fun k hk e => by omega); have hs5 := hn5.size; have hs6 := hu6.size; have hc60 : w6.cell? ⟨w3.heap.size, 0, none⟩ = some (.int .i64 a) := hu6.bk.cell rfl)
      refine EL_nil ?_
      refine E_seqR ?_
      refine EL_val (R_fieldAddr rfl K.fT61_1) rfl rfl rfl ?_
      refine EL_val (R_load rfl K.ag54 ((hno36.bk' hb5).cell rfl)) rfl rfl rfl ?_
      refine EL_val (R_fieldAddr rfl K.fT35_0) rfl rfl rfl ?_
      refine EL_val (R_load rfl K.ag3 (hc60)) rfl rfl rfl ?_
      refine EL_step rfl ?_
      refine EO_buildSlice Try.underlying54 K.zr3 K.sz3 rfl rfl rfl (fill_whole rfl (by rw [size_madeCells])) rfl ?_
      intro w7 hn7
      (have hs7 := hn7.size; have hb7t : Bk w7 w6.heap.size #[.int .i64 a] 3 := hn7.bk; have ho7 := (hno36.trans hn7.mods).own hou (fun _ _ h => h); have hb57 := (hno36.trans hn7.mods).bk' hb5)
      refine EL_step rfl ?_
      refine EO_append rfl rfl Try.underlying54 K.sz3 K.zr3 K.by3 rfl (by decide) ho7 (Src.bk hb7t 1 1 [.int .i64 a] rfl (fun q u hq => by rw [Nat.zero_add]; show (#[.int .i64 a] : Array Value)[q]? = some u; simpa using hq)) (by simp [Value.oneCell']) (by simp only [maxLen]; omega) (by omega) (by omega) rfl ?_
      intro v8 w8 ho8 hm8 hat8
      (have hne : ∀ {g : Nat} {C : Array Value} {t : TypeId}, Bk w7 g C t → t ≠ 3 → ¬ (some g = u.ownBlock) := (fun hb ht e => (by obtain ⟨_, cur, hc⟩ := own_blk ho7 e.symm; exact ht (hb.inj hc).2)); have hb58 := hm8.bk hb57 (hne hb57 (by decide)); have hb78 := hm8.bk (hn7.mods.bk' hu6.bk) (hne (hn7.mods.bk' hu6.bk) (by decide)); obtain ⟨A8, c8, rfl, _, _⟩ := own_sl ho8)
      refine EL_val (R_fieldAddr rfl K.fT61_1) rfl rfl rfl ?_
      refine EL_step rfl ?_
      refine EO_store1 rfl rfl K.sz54 rfl hb58 (by show 1 < 2; omega) ?_
      intro w9 hu9
      (have hno9 : Mods No w2 w9 := (((hno3.trans hno36).trans hn7.mods).trans' hm8 (fun k hk e => (by have := (own_blk ho7 e.symm).1; omega))).trans' hu9.mods (fun k hk e => by omega); have hb79 := hu9.mods.bk hb78 (by omega))
      refine EL_nil ?_
      refine E_seqD (fun _ => [(12, fun W => W.cell? ⟨w3.heap.size, 0 + 1, none⟩ = some (.slice Ay l.length cy)), (12, fun W => W.cell? ⟨w3.heap.size, 0 + 0, none⟩ = some (.int .i64 a)), (12, fun W => W.cell? ⟨b2, 0, none⟩ = some (ptr j)), (12, fun W => W.cell? ⟨j, 0 + 0, none⟩ = some (ptr d))]) 14 K.mix rfl ?_
      intro w16d hm16d hh16d
      (have hno10 := hno9.trans hm16d; have hb710 := hm16d.bk' hb79; have hb210 := hno10.bk' hb2; have h10 := h2.no hno10)
      refine EA_pure 0 rfl (fun _ => R_fieldAddr rfl K.fT35_1) (by kernel_rfl) rfl rfl rfl ?_
      refine EA_load 1 0 [2, 3, 4, 5, 6, 7, 8, 9, 10, 11, 12, 13] rfl rfl K.ag23 rfl (by kernel_rfl) (by kernel_rfl) rfl rfl ?_
      refine EA_pure 2 rfl (fun _ => R_lenSlice rfl Try.underlying23) (by kernel_rfl) rfl rfl rfl ?_
      first | refine EA_pure 3 rfl (fun _ => R_neq_t rfl rfl (by omega)) (by kernel_rfl) rfl rfl rfl ?_ | refine EA_pure 3 rfl (fun _ => R_neq_f rfl rfl (by omega)) (by kernel_rfl) rfl rfl rfl ?_
      refine EA_pure 4 rfl (fun _ => R_move rfl) (by kernel_rfl) rfl rfl rfl ?_
      first | refine EA_pure 5 rfl (fun _ => R_fieldAddr rfl K.fT35_0) (by kernel_rfl) rfl rfl rfl ?_ | refine EA_not 5 rfl (by kernel_rfl) rfl rfl rfl ?_
      refine EA_load 6 1 [12, 13] rfl rfl K.ag3 rfl (by kernel_rfl) (by kernel_rfl) rfl rfl ?_
      refine EA_load 7 2 [8, 9, 10, 11, 12, 13] rfl rfl K.ag30 rfl (by kernel_rfl) (by kernel_rfl) rfl rfl ?_
      first | refine EA_pure 8 rfl (fun _ => R_nilCheck rfl) (by kernel_rfl) rfl rfl rfl ?_ | refine EA_not 8 rfl (by kernel_rfl) rfl rfl rfl ?_
      first | refine EA_pure 9 rfl (fun _ => R_fieldAddr rfl K.fT59_0) (by kernel_rfl) rfl rfl rfl ?_ | refine EA_not 9 rfl (by kernel_rfl) rfl rfl rfl ?_
      refine EA_load 10 3 [11, 12, 13] rfl rfl K.ag29 rfl (by kernel_rfl) (by kernel_rfl) rfl rfl ?_
      refine EA_one 11 rfl (by kernel_rfl) rfl ⟨fun _ => hb710.cell rfl, fun _ => hb710.cell rfl, fun _ => hb210.cell rfl, fun _ => h10.bj.cell rfl, trivial⟩ ?_
      refine EO_call K.bd20 rfl rfl (blocks_j h10) ?_
      rintro _ _ ⟨rfl, rfl⟩
      refine EA_one 12 rfl (by kernel_rfl) rfl ⟨fun _ => hb710.cell rfl, fun _ => hb710.cell rfl, fun _ => hb210.cell rfl, fun _ => h10.bj.cell rfl, trivial⟩ ?_
      first | refine EO_val (R_geq_t rfl rfl (by omega)) rfl rfl ?_ | refine EO_val (R_geq_f rfl rfl (by omega)) rfl rfl ?_
      skip
      first | refine EA_pure 13 rfl (fun _ => R_pick_t rfl rfl) (by kernel_rfl) rfl rfl rfl ?_ | refine EA_pure 13 rfl (fun _ => R_pick_f rfl rfl) (by kernel_rfl) rfl rfl rfl ?_
      refine EA_done (by kernel_rfl) (Holds.done (by kernel_rfl)) ?_
      refine E_cond_f rfl ?_
      refine E_skip ?_
      refine inB_n ?_
      refine thenQ_n ?_
      refine E_region ?_
      first | refine EL_val (R_inc rfl (by omega)) rfl rfl rfl ?_ | refine EL_val (R_add_in rfl rfl (by omega) (by omega)) rfl rfl rfl ?_
      refine EL_val (R_move rfl) rfl rfl rfl ?_
      refine EL_nil ?_
      refine thenQ_n ?_
      refine ⟨rfl, L.length - (i + 1), [(1, .slice (some ⟨ga, 0, none⟩) L.length c), (2, ptr b2), (4, ptr b4), (5, ptr b5), (41, .slice (some ⟨ga, 0, none⟩) L.length c), (42, .int .i64 (L.length : Int)), (43, .int .i64 ((i + 1 : Nat) : Int))], by omega, ⟨rfl, rfl, rfl, rfl, rfl, rfl, rfl, trivial⟩, i + 1, _, by omega, rfl, rfl, hno10, hm16d.bk' hu9.bk, ?_⟩
      rw [htk]
      exact hm16d.own (own_upd ho8 hu9 hb58 (by decide)) fun _ _ h => h
    · have hi' : i = L.length := by omega
      subst hi'
      rw [List.take_of_length_le (by rw [tosL_length]; omega)] at hou

      refine E_seqR ?_
      first | refine EL_val (R_lss_t rfl rfl (by omega)) rfl rfl rfl ?_ | refine EL_val (R_lss_f rfl rfl (by omega)) rfl rfl rfl ?_
      refine EL_nil ?_
      refine E_seq ?_
      refine E_cond_f rfl ?_
      refine E_exit ?_
      refine thenQ_e ?_
      refine thenQ_e ?_
      refine inB_eq rfl ?_
      refine thenQ_n ?_
      exact ⟨rfl, [(1, .slice (some ⟨ga, 0, none⟩) L.length c), (2, ptr b2), (4, ptr b4), (5, ptr b5)], ⟨rfl, rfl, rfl, rfl, trivial⟩, u, rfl, hno3, hb5, hou⟩
  clear hno4 hb5 hs3 hs4
  clear w3 w4
  rintro e0 w3 ⟨u, rfl, hno3, hb5, hou⟩
  obtain ⟨Au, cu, rfl, hcu, _⟩ := own_sl hou
  have hs3 := hno3.size
  have hI : IS w3 Au (tosL L) := by
    have := Src.own hou
    unfold IS
    rw [tosL_length]
    exact this
  have hb33 := hno3.bk' hb2
  have hb43 := hno3.bk' hb4
  have h3 := h2.no hno3
  by_cases hr : 40 < J.used + L.length + 3
  · have hrj : roomJ J L.length = ⟨moveS J.st J.nA J.nS, J.nA, J.nS, J.nA, J.nS, 0⟩ := if_pos hr
    unfold commitJ
    rw [hrj]
    have hok : headOk (J.nA : Int) J.nS = true := by simp [headOk]; omega

    refine E_seqR ?_
    refine EL_val (R_loadAgg rfl K.ag61 (whole_cells hb5) (K.sz61)) rfl rfl rfl ?_
    refine EL_step rfl ?_
    refine EO_call K.bd21 rfl rfl ((by have := begin_ok (s := J.nS) (c := cu) hI (by rw [tosL_length]; omega) (by rw [tosL_length]; omega); rw [hs, tosL_length] at this; exact this)) ?_
    rintro _ w4 ⟨⟨v1, rfl, ho4⟩, hm4⟩
    (obtain ⟨A1, c1, rfl, _, _⟩ := own_sl ho4; have hs4 := hm4.size)
    refine EL_val (R_move rfl) rfl rfl rfl ?_
    refine EL_val (R_extract rfl rfl) rfl rfl rfl ?_
    refine EL_val (R_extract rfl rfl) rfl rfl rfl ?_
    refine EL_val (R_assign rfl) rfl rfl rfl ?_
    refine EL_step rfl ?_
    refine EO_store1 rfl rfl K.sz28 rfl (hm4.bk' hb43) (by show 0 < 1; omega) ?_
    intro w5 hu5
    (have hs5 := hu5.size; have hb55 := hu5.mods.bk (hm4.bk' hb5) (fun e => (by subst e; exact absurd ((hm4.bk' hb5).inj (hm4.bk' hb43)).2 (by decide))))
    refine EL_nil ?_
    refine E_seqR ?_
    refine EL_val (R_fieldAddr rfl K.fT61_0) rfl rfl rfl ?_
    refine EL_val (R_load rfl K.ag3 (hb55.cell rfl)) rfl rfl rfl ?_
    refine EL_val (R_move rfl) rfl rfl rfl ?_
    refine EL_val (R_lenSlice rfl Try.underlying42) rfl rfl rfl ?_
    refine EL_step rfl ?_
    refine EO_call K.bd22 rfl rfl ((by have := end_ok (w := w5) (s := J.nS) (n := (L.length : Int)); rw [hend] at this; exact this)) ?_
    rintro _ w6 ⟨⟨v2, rfl, ho6⟩, hm6⟩
    (obtain ⟨A2, c2, rfl, _, _⟩ := own_sl ho6; have hs6 := hm6.size; have hb46 := hm6.bk' hu5.bk; have hb26 := hm6.bk' (hu5.mods.bk (hm4.bk' hb33) (fun e => (by subst e; exact absurd ((hm4.bk' hb33).inj (hm4.bk' hb43)).2 (by decide)))); have h6 := (((h3.no hm4).upd hu5 (hm4.bk' hb43) (by decide)).no hm6); have hnoW6 : Mods No w w6 := ((((hno2.trans hno3).trans hm4).trans' hu5.mods (fun k hk e => (by omega))).trans hm6); have how6 := hnoW6.own how (fun _ _ h => h); have hwl6 := hwl.mods hnoW6 (fun _ _ _ h => h); have ho46 : OB 0 w6 (.slice A1 (beginB J.nS (tosL L)).length c1) (beginB J.nS (tosL L)) := own_mono (hm6.own (own_upd ho4 hu5 (hm4.bk' hb43) (by decide)) (fun _ _ h => h)) (Nat.zero_le _); have ho66 : OB 0 w6 (.slice A2 (endB J.nS (L.length : Int)).length c2) (endB J.nS (L.length : Int)) := own_mono ho6 (Nat.zero_le _))
    refine EL_val (R_move rfl) rfl rfl rfl ?_
    refine EL_val (R_extract rfl rfl) rfl rfl rfl ?_
    refine EL_val (R_extract rfl rfl) rfl rfl rfl ?_
    refine EL_val (R_assign rfl) rfl rfl rfl ?_
    refine EL_val (R_assign rfl) rfl rfl rfl ?_
    refine EL_nil ?_
    refine E_seq ?_
    refine E_seqR ?_
    refine EL_val (R_load rfl K.ag28 (hb46.cell rfl)) rfl rfl rfl ?_
    first | refine EL_val (R_neq_t rfl rfl (by omega)) rfl rfl rfl ?_ | refine EL_val (R_neq_f rfl rfl (by omega)) rfl rfl rfl ?_
    refine EL_val (R_move rfl) rfl rfl rfl ?_
    first | refine EL_val (R_move rfl) rfl rfl rfl ?_ | refine EL_not rfl rfl rfl ?_
    first | refine EL_val (R_neq_t rfl rfl (by omega)) rfl rfl rfl ?_ | refine EL_val (R_neq_f rfl rfl (by omega)) rfl rfl rfl ?_ | refine EL_not rfl rfl rfl ?_
    first | refine EL_val (R_pick_t rfl rfl) rfl rfl rfl ?_ | refine EL_val (R_pick_f rfl rfl) rfl rfl rfl ?_
    refine EL_nil ?_
    refine E_cond_f rfl ?_
    refine E_skip ?_
    refine thenQ_n ?_
    refine E_seqR ?_
    refine EL_val (R_makeFunc rfl) rfl rfl rfl ?_
    refine EL_step rfl ?_
    refine EO_defer (caps := [ptr b4, ptr b2]) rfl ?_
    skip
    refine EL_nil ?_
    refine E_seq ?_
    refine E_seqR ?_
    refine EL_val (R_load rfl K.ag30 (hb26.cell rfl)) rfl rfl rfl ?_
    refine EL_val (R_nilCheck rfl) rfl rfl rfl ?_
    refine EL_val (R_fieldAddr rfl K.fT59_3) rfl rfl rfl ?_
    refine EL_val (R_load rfl K.ag3 (h6.bj.cell rfl)) rfl rfl rfl ?_
    refine EL_val (R_move rfl) rfl rfl rfl ?_
    refine EL_val (R_lenSlice rfl Try.underlying42) rfl rfl rfl ?_
    refine EL_val (R_addE (((J.used + L.length : Nat) : Int)) rfl rfl (by omega) (by omega) (by omega)) rfl rfl rfl ?_
    refine EL_val (R_addE (((J.used + L.length + 3 : Nat) : Int)) rfl rfl (by omega) (by omega) (by omega)) rfl rfl rfl ?_
    first | refine EL_val (R_gtr_t rfl rfl (by omega)) rfl rfl rfl ?_ | refine EL_val (R_gtr_f rfl rfl (by omega)) rfl rfl rfl ?_
    refine EL_nil ?_
    refine E_cond_t rfl ?_
    refine E_seqR ?_
    refine EL_val (R_load rfl K.ag30 (hb26.cell rfl)) rfl rfl rfl ?_
    refine EL_step rfl ?_
    refine EO_call K.bd24 rfl rfl (move_ok h6 (by omega) hok hn) ?_
    rintro _ w7 ⟨rfl, h7, hm7⟩
    (have hb47 := hm7.bk hb46 (by decide); have hb27 := hm7.bk hb26 (by decide); have hs7 := hm7.size; have how7 := hm7.own how6 (by decide); have hwl7 := wl_tm hwl6 hm7 (by decide); have ho47 := ob_tm ho46 hm7 (by decide); have ho67 := ob_tm ho66 hm7 (by decide))
    refine EL_val (R_assign rfl) rfl rfl rfl ?_
    refine EL_nil ?_
    refine E_seqR ?_
    refine EL_val (R_move rfl) rfl rfl rfl ?_
    first | refine EL_val (R_neq_t rfl rfl (by omega)) rfl rfl rfl ?_ | refine EL_val (R_neq_f rfl rfl (by omega)) rfl rfl rfl ?_
    refine EL_nil ?_
    refine E_cond_f rfl ?_
    refine E_skip ?_
    refine thenQ_n ?_
    refine E_seqR ?_
    refine EL_val (R_load rfl K.ag30 (hb27.cell rfl)) rfl rfl rfl ?_
    refine EL_val (R_move rfl) rfl rfl rfl ?_
    refine EL_val (R_move rfl) rfl rfl rfl ?_
    refine EL_val (R_move rfl) rfl rfl rfl ?_
    refine EL_step rfl ?_
    refine EO_call K.bd25 rfl rfl (write_ok h7 (by omega) hA hn (by show 0 ≤ 1000; omega) ⟨by show 0 ≤ J.nS; omega, by show J.nS ≤ 1073741824; omega⟩ (fun i hi => by show ((moveS J.st J.nA J.nS).opn i).length ≤ _; rw [moveS_opn (S := J.st) hi]; simp) how7 hwl7 hL1 hL20 hg ho47 ho67 hbl hel) ?_
    rintro _ w8 ⟨rfl, h8, hm8⟩
    (have hb48 := hm8.bk hb47 (by decide); have hb28 := hm8.bk hb27 (by decide))
    refine EL_step rfl ?_
    refine EO_store1 rfl rfl K.sz28 rfl hb48 (by show 0 < 1; omega) ?_
    intro w9 hu9
    refine EL_nil ?_
    refine E_ret ?_
    have h9 := h8.upd hu9 hb48 (by decide)
    have hb29 := hu9.mods.bk hb28 (fun e => by subst e; exact absurd (hb28.inj hb48).2 (by decide))
    refine retQ_c1 (caps := [ptr b4, ptr b2]) (.inr rfl) rfl rfl K.ag28 K.bd23 (S := fun w' => JAt w' B d j _ ∧ TM JT B w9 w') (dead_ok h9 hu9.bk hb29) fun w' ⟨hj, hm⟩ => ⟨.int .i64 0, (hm.bk hu9.bk (by decide)).cell rfl, rfl, hj, ?_⟩
    have h18 := (((TM.of_no hnoW6).trans hm7).trans hm8)
    exact TM.trans (show TM JT B w w9 from Mods.trans' h18 hu9.mods fun k hk e => by omega) hm
  · have hrj : roomJ J L.length = J := if_neg hr
    unfold commitJ
    rw [hrj]

    refine E_seqR ?_
    refine EL_val (R_loadAgg rfl K.ag61 (whole_cells hb5) (K.sz61)) rfl rfl rfl ?_
    refine EL_step rfl ?_
    refine EO_call K.bd21 rfl rfl ((by have := begin_ok (s := J.nS) (c := cu) hI (by rw [tosL_length]; omega) (by rw [tosL_length]; omega); rw [hs, tosL_length] at this; exact this)) ?_
    rintro _ w4 ⟨⟨v1, rfl, ho4⟩, hm4⟩
    (obtain ⟨A1, c1, rfl, _, _⟩ := own_sl ho4; have hs4 := hm4.size)
    refine EL_val (R_move rfl) rfl rfl rfl ?_
    refine EL_val (R_extract rfl rfl) rfl rfl rfl ?_
    refine EL_val (R_extract rfl rfl) rfl rfl rfl ?_
    refine EL_val (R_assign rfl) rfl rfl rfl ?_
    refine EL_step rfl ?_
    refine EO_store1 rfl rfl K.sz28 rfl (hm4.bk' hb43) (by show 0 < 1; omega) ?_
    intro w5 hu5
    (have hs5 := hu5.size; have hb55 := hu5.mods.bk (hm4.bk' hb5) (fun e => (by subst e; exact absurd ((hm4.bk' hb5).inj (hm4.bk' hb43)).2 (by decide))))
    refine EL_nil ?_
    refine E_seqR ?_
    refine EL_val (R_fieldAddr rfl K.fT61_0) rfl rfl rfl ?_
    refine EL_val (R_load rfl K.ag3 (hb55.cell rfl)) rfl rfl rfl ?_
    refine EL_val (R_move rfl) rfl rfl rfl ?_
    refine EL_val (R_lenSlice rfl Try.underlying42) rfl rfl rfl ?_
    refine EL_step rfl ?_
    refine EO_call K.bd22 rfl rfl ((by have := end_ok (w := w5) (s := J.nS) (n := (L.length : Int)); rw [hend] at this; exact this)) ?_
    rintro _ w6 ⟨⟨v2, rfl, ho6⟩, hm6⟩
    (obtain ⟨A2, c2, rfl, _, _⟩ := own_sl ho6; have hs6 := hm6.size; have hb46 := hm6.bk' hu5.bk; have hb26 := hm6.bk' (hu5.mods.bk (hm4.bk' hb33) (fun e => (by subst e; exact absurd ((hm4.bk' hb33).inj (hm4.bk' hb43)).2 (by decide)))); have h6 := (((h3.no hm4).upd hu5 (hm4.bk' hb43) (by decide)).no hm6); have hnoW6 : Mods No w w6 := ((((hno2.trans hno3).trans hm4).trans' hu5.mods (fun k hk e => (by omega))).trans hm6); have how6 := hnoW6.own how (fun _ _ h => h); have hwl6 := hwl.mods hnoW6 (fun _ _ _ h => h); have ho46 : OB 0 w6 (.slice A1 (beginB J.nS (tosL L)).length c1) (beginB J.nS (tosL L)) := own_mono (hm6.own (own_upd ho4 hu5 (hm4.bk' hb43) (by decide)) (fun _ _ h => h)) (Nat.zero_le _); have ho66 : OB 0 w6 (.slice A2 (endB J.nS (L.length : Int)).length c2) (endB J.nS (L.length : Int)) := own_mono ho6 (Nat.zero_le _))
    refine EL_val (R_move rfl) rfl rfl rfl ?_
    refine EL_val (R_extract rfl rfl) rfl rfl rfl ?_
    refine EL_val (R_extract rfl rfl) rfl rfl rfl ?_
    refine EL_val (R_assign rfl) rfl rfl rfl ?_
    refine EL_val (R_assign rfl) rfl rfl rfl ?_
    refine EL_nil ?_
    refine E_seq ?_
    refine E_seqR ?_
    refine EL_val (R_load rfl K.ag28 (hb46.cell rfl)) rfl rfl rfl ?_
    first | refine EL_val (R_neq_t rfl rfl (by omega)) rfl rfl rfl ?_ | refine EL_val (R_neq_f rfl rfl (by omega)) rfl rfl rfl ?_
    refine EL_val (R_move rfl) rfl rfl rfl ?_
    first | refine EL_val (R_move rfl) rfl rfl rfl ?_ | refine EL_not rfl rfl rfl ?_
    first | refine EL_val (R_neq_t rfl rfl (by omega)) rfl rfl rfl ?_ | refine EL_val (R_neq_f rfl rfl (by omega)) rfl rfl rfl ?_ | refine EL_not rfl rfl rfl ?_
    first | refine EL_val (R_pick_t rfl rfl) rfl rfl rfl ?_ | refine EL_val (R_pick_f rfl rfl) rfl rfl rfl ?_
    refine EL_nil ?_
    refine E_cond_f rfl ?_
    refine E_skip ?_
    refine thenQ_n ?_
    refine E_seqR ?_
    refine EL_val (R_makeFunc rfl) rfl rfl rfl ?_
    refine EL_step rfl ?_
    refine EO_defer (caps := [ptr b4, ptr b2]) rfl ?_
    skip
    refine EL_nil ?_
    refine E_seq ?_
    refine E_seqR ?_
    refine EL_val (R_load rfl K.ag30 (hb26.cell rfl)) rfl rfl rfl ?_
    refine EL_val (R_nilCheck rfl) rfl rfl rfl ?_
    refine EL_val (R_fieldAddr rfl K.fT59_3) rfl rfl rfl ?_
    refine EL_val (R_load rfl K.ag3 (h6.bj.cell rfl)) rfl rfl rfl ?_
    refine EL_val (R_move rfl) rfl rfl rfl ?_
    refine EL_val (R_lenSlice rfl Try.underlying42) rfl rfl rfl ?_
    refine EL_val (R_addE (((J.used + L.length : Nat) : Int)) rfl rfl (by omega) (by omega) (by omega)) rfl rfl rfl ?_
    refine EL_val (R_addE (((J.used + L.length + 3 : Nat) : Int)) rfl rfl (by omega) (by omega) (by omega)) rfl rfl rfl ?_
    first | refine EL_val (R_gtr_t rfl rfl (by omega)) rfl rfl rfl ?_ | refine EL_val (R_gtr_f rfl rfl (by omega)) rfl rfl rfl ?_
    refine EL_nil ?_
    refine E_cond_f rfl ?_
    refine E_skip ?_
    refine thenQ_n ?_
    refine E_seqR ?_
    refine EL_val (R_load rfl K.ag30 (hb26.cell rfl)) rfl rfl rfl ?_
    refine EL_val (R_move rfl) rfl rfl rfl ?_
    refine EL_val (R_move rfl) rfl rfl rfl ?_
    refine EL_val (R_move rfl) rfl rfl rfl ?_
    refine EL_step rfl ?_
    refine EO_call K.bd25 rfl rfl (write_ok h6 (by omega) hA hn hu30 ⟨by omega, by omega⟩ hroom how6 hwl6 hL1 hL20 hg ho46 ho66 hbl hel) ?_
    rintro _ w8 ⟨rfl, h8, hm8⟩
    (have hb48 := hm8.bk hb46 (by decide); have hb28 := hm8.bk hb26 (by decide))
    refine EL_step rfl ?_
    refine EO_store1 rfl rfl K.sz28 rfl hb48 (by show 0 < 1; omega) ?_
    intro w9 hu9
    refine EL_nil ?_
    refine E_ret ?_
    have h9 := h8.upd hu9 hb48 (by decide)
    have hb29 := hu9.mods.bk hb28 (fun e => by subst e; exact absurd (hb28.inj hb48).2 (by decide))
    refine retQ_c1 (caps := [ptr b4, ptr b2]) (.inr rfl) rfl rfl K.ag28 K.bd23 (S := fun w' => JAt w' B d j _ ∧ TM JT B w9 w') (dead_ok h9 hu9.bk hb29) fun w' ⟨hj, hm⟩ => ⟨.int .i64 0, (hm.bk hu9.bk (by decide)).cell rfl, rfl, hj, ?_⟩
    have h18 := (TM.of_no hnoW6).trans hm8
    exact TM.trans (show TM JT B w w9 from Mods.trans' h18 hu9.mods fun k hk e => by omega) hm
end Go.Proofs.Ytobhogdndfbniaa
