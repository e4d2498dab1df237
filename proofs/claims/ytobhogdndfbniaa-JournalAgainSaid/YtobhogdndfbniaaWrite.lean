/- What the journal writes for a transaction (journal.write). -/
import Derived.Test.YtobhogdndfbniaaCommit
set_option linter.unusedVariables false
set_option linter.unusedSimpArgs false
set_option maxRecDepth 100000
namespace Go.Proofs.Ytobhogdndfbniaa
open Go.EW Go.RowKit

theorem place_ok {w : World} {ba nA q : Nat} {A : Option Addr} {n c : Nat} (hb : Bk w ba #[.int .i64 (((nA + q) % 40 : Nat) : Int)] 3) :
    Ret Try.prog 41 [.slice A n c, ptr ba] w fun v w' => v = .agg #[.int .i64 (plA nA q), .slice A n c] ∧ Bk w' ba #[.int .i64 (((nA + (q + 1)) % 40 : Nat) : Int)] 3 ∧ Mods (fun i => i = ba) w w' := by
  have hpl : plA nA q = ((19 + (nA + q) % 40 : Nat) : Int) := rfl
  have hlt := hb.lt
  refine Ret.enter Try.func41 rfl Try.ntmps41 rfl ?_
  simp only [argEnv, Nat.reduceAdd]
  refine E_seqR ?_
  refine EL_step rfl ?_
  refine EO_alloc K.zr35 rfl ?_
  intro w1 hn1
  refine EL_nil ?_
  refine E_seqR ?_
  refine EL_val (R_load rfl K.ag3 ((hn1.mods.bk' hb).cell rfl)) rfl rfl rfl ?_
  refine EL_val (R_addE ((plA nA q)) rfl rfl (by omega) (by omega) (by omega)) rfl rfl rfl ?_
  refine EL_val (R_move rfl) rfl rfl rfl ?_
  refine EL_val (R_build (cells := #[.int .i64 (plA nA q), .slice A n c]) K.zr35 K.pl35 rfl rfl) rfl rfl rfl ?_
  refine EL_step rfl ?_
  refine EO_alloc K.zr35 rfl ?_
  intro w2 hn2
  refine EL_step rfl ?_
  refine EO_storeWhole hn2.bk rfl rfl K.sz35 rfl rfl ?_
  intro w3 hu3
  (have hs1 := hn1.size; have hs2 := hn2.size; have hb3 := hu3.mods.bk (hn2.mods.bk' (hn1.mods.bk' hb)) (by omega))
  refine EL_nil ?_
  refine E_seqR ?_
  refine EL_val (R_load rfl K.ag3 (hb3.cell rfl)) rfl rfl rfl ?_
  refine EL_val (R_addE ((((nA + q) % 40 + 1 : Nat) : Int)) rfl rfl (by omega) (by omega) (by omega)) rfl rfl rfl ?_
  refine EL_val (R_remE (((nA + (q + 1)) % 40 : Nat) : Int) (by omega) (by omega) (by omega) rfl rfl) rfl rfl rfl ?_
  refine EL_step rfl ?_
  refine EO_store1 rfl rfl K.sz3 rfl hb3 (by show 0 < 1; omega) ?_
  intro w4 hu4
  refine EL_nil ?_
  refine E_seqR ?_
  refine EL_val (R_loadAgg rfl K.ag35 (whole_cells (hu4.mods.bk hu3.bk (by omega))) (K.sz35)) rfl rfl rfl ?_
  refine EL_step rfl ?_
  refine EO_storeWhole (hu4.mods.bk (hu3.mods.bk (hn2.mods.bk' hn1.bk) (by omega)) (by omega)) rfl rfl K.sz35 rfl rfl ?_
  intro w5 hu5
  refine EL_nil ?_
  refine E_ret ?_
  refine ret_c (.inr rfl) rfl rfl K.ag35 (by exact K.sz35) (whole_cells hu5.bk) ?_
  refine ⟨rfl, hu5.mods.bk hu4.bk (by omega), ?_⟩
  have h03 : Mods No w w3 := (hn1.mods.trans hn2.mods).trans' hu3.mods fun k hk e => by omega
  exact (h03.no.trans hu4.mods).trans' hu5.mods fun k hk e => by omega
/-- the blocks of a transaction that stand ahead of its last one, the first k data blocks of them -/
def aheadK (nA : Nat) (first : List UInt8) (L : List (Int × List UInt8)) (k : Nat) : List (Int × List UInt8) := (plA nA 0, first) :: (List.range k).map fun i => (plA nA (1 + i), (L.getD i (0, [])).2)
theorem aheadK_succ (nA : Nat) (first : List UInt8) (L : List (Int × List UInt8)) (k : Nat) : aheadK nA first L (k + 1) = aheadK nA first L k ++ [(plA nA (1 + k), (L.getD k (0, [])).2)] := by
  simp [aheadK, List.range_succ]
theorem aheadK_length (nA : Nat) (first : List UInt8) (L : List (Int × List UInt8)) (k : Nat) : (aheadK nA first L k).length = k + 1 := by simp [aheadK]
theorem aheadK_good {n nA : Nat} {first : List UInt8} {L : List (Int × List UInt8)} (hn : 64 ≤ n) (hf : first.length = 64) (hL : ∀ p ∈ L, p.2.length = 64) : GoodW n (aheadK nA first L L.length) := fun p hp => by
  rcases List.mem_cons.1 hp with rfl | hp
  · exact ⟨(plA_good hn).1, (plA_good hn).2, hf⟩
  · obtain ⟨i, hi, rfl⟩ := List.mem_map.1 hp
    have hi' : i < L.length := by simpa using hi
    refine ⟨(plA_good hn).1, (plA_good hn).2, ?_⟩
    show (L.getD i (0, [])).2.length = 64
    rw [List.getD_eq_getElem?_getD, List.getElem?_eq_getElem hi']
    exact hL _ (List.getElem_mem hi')
/-- a transaction written -/
def logS (S : DS) (nA : Nat) (L : List (Int × List UInt8)) (first last : List UInt8) : DS :=
  allS (putF (allS (putF (allS (putF S (blankL nA L.length))) (aheadK nA first L L.length))) [(plA nA (L.length + 1), last)])
def writeJ (J : JS) (L : List (Int × List UInt8)) (first last : List UInt8) : JS :=
  ⟨putF (logS J.st J.nA L first last) L, J.hA, J.hS, (J.nA + (L.length + 2)) % 40, J.nS + 1, J.used + L.length + 2⟩
theorem ob_tm {w w' : World} {T : TypeId → Prop} {B base : Nat} {v : Value} {l : List UInt8} (h : OB base w v l) (hm : TM T B w w') (ht : ¬ T 5) : OB base w' v l := hm.own h ht
theorem wl_tm {w w' : World} {T : TypeId → Prop} {B base : Nat} {L : List (Int × List UInt8)} {xs : List Value} (h : WLo w base L xs) (hm : TM T B w w') (ht : ¬ T 5) : WLo w' base L xs :=
  h.mods hm fun g C hb ⟨_, C', t', hb', ht'⟩ => ht (by rw [(hb.inj hb').2]; exact ht')
set_option maxHeartbeats 4000000 in
theorem write_ok {w : World} {B d j : Nat} {J : JS} (h : JAt w B d j J) (hB : B ≤ w.heap.size) (hA : J.nA < 40) (hn : 64 ≤ J.st.n) (hu30 : J.used ≤ 1000) (hS30 : 0 ≤ J.nS ∧ J.nS ≤ 1073741824) (hroom : ∀ i, i < J.st.n → (J.st.opn i).length ≤ 1000) {A : Option Addr} {L : List (Int × List UInt8)} {c base b1 : Nat} {xs : List Value} (how : w.ownsRow base 35 2 (.slice A L.length c) L.length xs) (hwl : WLo w b1 L xs)
    (hL1 : 1 ≤ L.length) (hL20 : L.length ≤ 20) (hg : GoodW J.st.n L) {first last : List UInt8} {A1 A2 : Option Addr} {c1 c2 : Nat} (h1 : OB 0 w (.slice A1 first.length c1) first) (h2 : OB 0 w (.slice A2 last.length c2) last) (hf64 : first.length = 64) (hl64 : last.length = 64) :
    Ret Try.prog 25 [ptr j, .slice A L.length c, .slice A1 first.length c1, .slice A2 last.length c2] w fun v w' => v = .int .i64 0 ∧ JAt w' B d j (writeJ J L first last) ∧ TM JT B w w' := by
  obtain ⟨ga, capa, _, hvA, _⟩ := own_form how (by omega)
  injection hvA with hvA hx1 hx2
  subst hvA
  refine Ret.enter Try.func25 rfl Try.ntmps25 rfl ?_
  simp only [argEnv, Nat.reduceAdd]
  refine E_seqR ?_
  refine EL_val (R_assign rfl) rfl rfl rfl ?_
  refine EL_nil ?_
  refine E_seq ?_
  refine E_seqR ?_
  refine EL_val (R_move rfl) rfl rfl rfl ?_
  refine EL_val (R_move rfl) rfl rfl rfl ?_
  refine EL_val (R_lenSlice rfl Try.underlying42) rfl rfl rfl ?_
  refine EL_step rfl ?_
  refine EO_call K.bd40 rfl rfl (blank_ok h hB hA hn hroom hL20) ?_
  rintro _ w2 ⟨rfl, hj2, hm2⟩
  (have how2 := hm2.own how (by decide); have hwl2 := (wl_tm hwl hm2 (by decide)).mono (Nat.zero_le _); have h12 := ob_tm h1 hm2 (by decide); have h22 := ob_tm h2 hm2 (by decide))
  refine EL_val (R_assign rfl) rfl rfl rfl ?_
  refine EL_nil ?_
  refine E_seqR ?_
  refine EL_val (R_move rfl) rfl rfl rfl ?_
  first | refine EL_val (R_neq_t rfl rfl (by omega)) rfl rfl rfl ?_ | refine EL_val (R_neq_f rfl rfl (by omega)) rfl rfl rfl ?_
  refine EL_nil ?_
  refine E_cond_f rfl ?_
  refine E_skip ?_
  refine thenQ_n ?_
  refine E_seqR ?_
  refine EL_val (R_move rfl) rfl rfl rfl ?_
  refine EL_val (R_nilCheck rfl) rfl rfl rfl ?_
  refine EL_val (R_fieldAddr rfl K.fT59_2) rfl rfl rfl ?_
  refine EL_val (R_fieldAddr rfl K.fT46_0) rfl rfl rfl ?_
  refine EL_val (R_load rfl K.ag3 (hj2.bj.cell rfl)) rfl rfl rfl ?_
  refine EL_step rfl ?_
  refine EO_alloc K.zr3 rfl ?_
  intro w3 hn3
  refine EL_step rfl ?_
  refine EO_store1 rfl rfl K.sz3 rfl hn3.bk (by show 0 < 1; omega) ?_
  intro w4 hu4
  refine EL_nil ?_
  refine E_seqR ?_
  refine EL_val (R_makeFunc rfl) rfl rfl rfl ?_
  refine EL_val (R_assign rfl) rfl rfl rfl ?_
  refine EL_nil ?_
  refine E_seqR ?_
  refine EL_val (R_move rfl) rfl rfl rfl ?_
  refine EL_val (R_move rfl) rfl rfl rfl ?_
  refine EL_step rfl ?_
  refine EO_callv K.bd41 (caps := [ptr w2.heap.size]) rfl rfl rfl (place_ok (nA := J.nA) (q := 0) (by rw [show (J.nA + 0) % 40 = J.nA by omega]; exact hu4.bk)) ?_
  rintro _ w5 ⟨rfl, hb5, hm5⟩
  refine EL_step rfl ?_
  refine EO_buildSlice Try.underlying42 K.zr35 K.sz35 rfl rfl rfl (fill_whole rfl (by rw [size_madeCells])) rfl ?_
  intro w6 hn6
  refine EL_val (R_assign rfl) rfl rfl rfl ?_
  refine EL_nil ?_
  refine E_seq ?_
  refine E_seqR ?_
  refine EL_val (R_move rfl) rfl rfl rfl ?_
  refine EL_val (R_lenSlice rfl Try.underlying42) rfl rfl rfl ?_
  refine EL_val (R_move rfl) rfl rfl rfl ?_
  refine EL_nil ?_
  have hs2 := hm2.size
  have hs3 := hn3.size
  have hs4 := hu4.size
  have hs5 := hm5.size
  have hs6 := hn6.size
  obtain ⟨ba, hba⟩ : ∃ ba, ba = w2.heap.size := ⟨_, rfl⟩
  rw [← hba] at hb5 hm5 hu4 ⊢
  have hno5 : Mods No w2 w5 := (hn3.mods.trans' hu4.mods fun k hk e => by omega).trans' hm5 fun k hk e => by omega
  have hno6 := hno5.trans hn6.mods
  have hb6 := hn6.mods.bk' hb5
  have ho6 : w6.ownsRow w2.heap.size 35 2 (.slice (some ⟨w5.heap.size, 0, none⟩) 1 1) (aheadK J.nA first L 0).length [.int .i64 (plA J.nA 0), .slice A1 first.length c1] := hn6.own (m := 1) (size := 2) rfl (by omega) (by simp only [maxLen]; omega)
  have hw6 : WLo w6 0 (aheadK J.nA first L 0) [.int .i64 (plA J.nA 0), .slice A1 first.length c1] := ⟨⟨rfl, hno6.own h12 fun _ _ h => h⟩, trivial⟩
  clear hn6 hb5 hm5 hno5 hu4 hn3
  refine E_cut (fun e0 w' => ∃ v xa, e0 = [(0, ptr j), (1, .slice (some ⟨ga, 0, none⟩) L.length c), (3, .slice A2 last.length c2), (10, ptr ba), (11, .func (.func 41) #[] #[ptr ba]), (12, v)] ∧ Mods No w2 w' ∧ Bk w' ba #[.int .i64 (((J.nA + (L.length + 1)) % 40 : Nat) : Int)] 3 ∧ w'.ownsRow w2.heap.size 35 2 v (aheadK J.nA first L L.length).length xa ∧ WLo w' 0 (aheadK J.nA first L L.length) xa) ?_ ?_
  · refine E_block ?_
    refine E_loop (fun m' e' w' => ∃ i v xa, i ≤ L.length ∧ m' = L.length - i ∧ e' = [(0, ptr j), (1, .slice (some ⟨ga, 0, none⟩) L.length c), (3, .slice A2 last.length c2), (11, .func (.func 41) #[] #[ptr ba]), (10, ptr ba), (12, v), (37, .slice (some ⟨ga, 0, none⟩) L.length c), (38, .int .i64 (L.length : Int)), (39, .int .i64 ((i : Nat) : Int))] ∧ Mods No w2 w' ∧ Bk w' ba #[.int .i64 (((J.nA + (i + 1)) % 40 : Nat) : Int)] 3 ∧ w'.ownsRow w2.heap.size 35 2 v (aheadK J.nA first L i).length xa ∧ WLo w' 0 (aheadK J.nA first L i) xa) L.length [(0, ptr j), (1, .slice (some ⟨ga, 0, none⟩) L.length c), (3, .slice A2 last.length c2), (11, .func (.func 41) #[] #[ptr ba]), (10, ptr ba), (12, .slice (some ⟨w5.heap.size, 0, none⟩) 1 1), (37, .slice (some ⟨ga, 0, none⟩) L.length c), (38, .int .i64 (L.length : Int)), (39, .int .i64 ((0 : Nat) : Int))] ⟨rfl, rfl, rfl, rfl, rfl, rfl, rfl, rfl, rfl, trivial⟩
      ⟨0, _, _, by omega, by omega, rfl, hno6, hb6, ho6, hw6⟩ ?_
    clear hno6 hb6 ho6 hw6 hs6 hs5 hs4 hs3
    clear w3 w4 w5 w6
    rintro m' e w3 ⟨i, v, xa, hi, rfl, rfl, hno3, hb3, ho3, hw3⟩
    by_cases hlt : i < L.length
    · have hs3 := hno3.size
      obtain ⟨y, hx0, hx1', hy2⟩ := hwl2.at_ i hlt
      obtain ⟨Ay, cy, rfl, _, _⟩ := own_sl hy2
      have hgd : (L.getD i (0, [])).2 = L[i].2 := by rw [List.getD_eq_getElem?_getD, List.getElem?_eq_getElem hlt]; rfl
      have hsucc := aheadK_succ J.nA first L i
      rw [hgd] at hsucc
      have hal := aheadK_length J.nA first L i

      refine E_seqR ?_
      first | refine EL_val (R_lss_t rfl rfl (by omega)) rfl rfl rfl ?_ | refine EL_val (R_lss_f rfl rfl (by omega)) rfl rfl rfl ?_
      refine EL_nil ?_
      refine E_seq ?_
      refine E_cond_t rfl ?_
      refine E_skip ?_
      refine thenQ_n ?_
      refine E_seq ?_
      refine E_block ?_
      refine E_seqR ?_
      refine EL_val (R_indexAddr rfl rfl Try.underlying42 K.sz35 (m := i) rfl hlt) rfl rfl rfl ?_
      refine EL_val (R_loadAgg rfl K.ag35 (own_cells2 (hno3.own how2 fun _ _ h => h) hx0 hx1') (K.sz35)) rfl rfl rfl ?_
      refine EL_step rfl ?_
      refine EO_alloc K.zr35 rfl ?_
      intro w4 hn4
      refine EL_step rfl ?_
      refine EO_storeWhole hn4.bk rfl rfl K.sz35 rfl rfl ?_
      intro w5 hu5
      (have hno35 : Mods No w3 w5 := hn4.mods.trans' hu5.mods (fun k hk e => by omega); have hb5 := hno35.bk' hb3)
      refine EL_nil ?_
      refine E_region ?_
      refine EL_val (R_move rfl) rfl rfl rfl ?_
      refine EL_val (R_move rfl) rfl rfl rfl ?_
      refine EL_val (R_fieldAddr rfl K.fT35_1) rfl rfl rfl ?_
      refine EL_val (R_load rfl K.ag23 (hu5.bk.cell rfl)) rfl rfl rfl ?_
      refine EL_step rfl ?_
      refine EO_callv K.bd41 (caps := [ptr ba]) rfl rfl rfl (place_ok (nA := J.nA) (q := i + 1) hb5) ?_
      rintro _ w6 ⟨rfl, hb6, hm6⟩
      refine EL_step rfl ?_
      refine EO_buildSlice Try.underlying42 K.zr35 K.sz35 rfl rfl rfl (fill_whole rfl (by rw [size_madeCells])) rfl ?_
      intro w7 hn7
      (have ho7 := hn7.mods.own (hm6.own (hno35.own ho3 fun _ _ h => h) (fun k hk e => (by obtain ⟨_, cur, hc⟩ := own_blk (hno35.own ho3 fun _ _ h => h) hk; subst e; exact absurd (hc.inj hb5).2 (by decide)))) (fun _ _ h => h); have hw7 := ((hw3.mods hno35 (fun _ _ _ h => h)).mods hm6 (fun g C hb e => (by subst e; exact absurd (hb.inj hb5).2 (by decide)))).mods hn7.mods (fun _ _ _ h => h); have hs5 := hno35.size; have hs6 := hm6.size; have hs7 := hn7.size)
      refine EL_step rfl ?_
      refine EO_append rfl rfl Try.underlying42 K.sz35 K.zr35 K.by35 rfl (by decide) ho7 (Src.bk hn7.bk 1 2 [.int .i64 (plA J.nA (i + 1)), .slice Ay L[i].2.length cy] rfl (fun q u hq => by rw [Nat.zero_add]; show (#[.int .i64 (plA J.nA (i + 1)), .slice Ay L[i].2.length cy] : Array Value)[q]? = some u; simpa using hq)) (by simp [Value.oneCell']) (by simp only [maxLen]; omega) (by omega) (by omega) rfl ?_
      intro v8 w8 ho8 hm8 hat8
      refine EL_val (R_assign rfl) rfl rfl rfl ?_
      refine EL_nil ?_
      refine inB_n ?_
      refine thenQ_n ?_
      refine E_region ?_
      first | refine EL_val (R_inc rfl (by omega)) rfl rfl rfl ?_ | refine EL_val (R_add_in rfl rfl (by omega) (by omega)) rfl rfl rfl ?_
      refine EL_val (R_move rfl) rfl rfl rfl ?_
      refine EL_nil ?_
      refine thenQ_n ?_
      have hno27 : Mods No w2 w7 := ((hno3.trans hno35).trans' hm6 fun k hk e => by omega).trans hn7.mods
      have hy7 : OB 0 w7 (.slice Ay L[i].2.length cy) L[i].2 := own_mono (hno27.own hy2 fun _ _ h => h) (Nat.zero_le _)
      obtain ⟨r1, r2⟩ := wl_app ho7 hw7 hm8 ho8 hy7
      rw [show i + 1 = 1 + i by omega] at r1 r2
      rw [← hsucc] at r1 r2
      have hb7 := hn7.mods.bk' hb6
      exact ⟨rfl, L.length - (i + 1), [(0, ptr j), (1, .slice (some ⟨ga, 0, none⟩) L.length c), (3, .slice A2 last.length c2), (11, .func (.func 41) #[] #[ptr ba]), (10, ptr ba), (12, v8), (37, .slice (some ⟨ga, 0, none⟩) L.length c), (38, .int .i64 (L.length : Int)), (39, .int .i64 ((i + 1 : Nat) : Int))], by omega, ⟨rfl, rfl, rfl, rfl, rfl, rfl, rfl, rfl, rfl, trivial⟩, i + 1, v8, _, by omega, rfl, rfl, hno27.trans' hm8 (fun k hk e => by have := (own_blk ho7 e.symm).1; omega), hm8.bk hb7 (fun e => by obtain ⟨_, cur, hc⟩ := own_blk ho7 e.symm; exact absurd (hc.inj hb7).2 (by decide)), r1, r2⟩
    · have hi' : i = L.length := by omega
      subst hi'

      refine E_seqR ?_
      first | refine EL_val (R_lss_t rfl rfl (by omega)) rfl rfl rfl ?_ | refine EL_val (R_lss_f rfl rfl (by omega)) rfl rfl rfl ?_
      refine EL_nil ?_
      refine E_seq ?_
      refine E_cond_f rfl ?_
      refine E_exit ?_
      refine thenQ_e ?_
      refine thenQ_e ?_
      refine inB_eq rfl ?_
      refine thenQ_n ?_
      exact ⟨rfl, [(0, ptr j), (1, .slice (some ⟨ga, 0, none⟩) L.length c), (3, .slice A2 last.length c2), (10, ptr ba), (11, .func (.func 41) #[] #[ptr ba]), (12, v)], ⟨rfl, rfl, rfl, rfl, rfl, rfl, trivial⟩, v, xa, rfl, hno3, hb3, ho3, hw3⟩
  clear hno6 hb6 ho6 hw6 hs6 hs5 hs4 hs3
  clear w3 w4 w5 w6
  rintro e0 w3 ⟨v, xa, rfl, hno3, hb3, ho3, hw3⟩
  have hs3 := hno3.size
  have hal := aheadK_length J.nA first L L.length
  obtain ⟨Av, cv, rfl, _, _⟩ := own_sl ho3

  refine E_seqR ?_
  refine EL_val (R_move rfl) rfl rfl rfl ?_
  refine EL_val (R_move rfl) rfl rfl rfl ?_
  refine EL_step rfl ?_
  refine EO_callv K.bd41 (caps := [ptr ba]) rfl rfl rfl (place_ok (nA := J.nA) (q := L.length + 1) hb3) ?_
  rintro _ w4 ⟨rfl, hb4, hm4⟩
  refine EL_step rfl ?_
  refine EO_alloc K.zr35 rfl ?_
  intro w5 hn5
  refine EL_step rfl ?_
  refine EO_storeWhole hn5.bk rfl rfl K.sz35 rfl rfl ?_
  intro w6 hu6
  (have hm36 : Mods (fun i => i = ba) w3 w6 := (hm4.trans' hn5.mods fun k hk e => e.elim).trans' hu6.mods (fun k hk e => (by have := hm4.size; omega)))
  refine EL_nil ?_
  refine E_seq ?_
  refine E_seqR ?_
  refine EL_val (R_move rfl) rfl rfl rfl ?_
  refine EL_val (R_loadAgg rfl K.ag35 (whole_cells hu6.bk) (K.sz35)) rfl rfl rfl ?_
  refine EL_step rfl ?_
  refine EO_buildSlice Try.underlying42 K.zr35 K.sz35 rfl rfl rfl (fill_whole rfl (by rw [size_madeCells])) rfl ?_
  intro w7 hn7
  refine EL_step rfl ?_
  refine EO_buildSlice Try.underlying90 K.zr42 K.sz42 rfl rfl rfl (cells := #[.slice Av (aheadK J.nA first L L.length).length cv, .slice (some ⟨w6.heap.size, 0, none⟩) 1 1]) (by kernel_rfl) rfl ?_
  intro w8 hn8
  refine EL_val (R_lenSlice rfl Try.underlying90) rfl rfl rfl ?_
  refine EL_val (R_move rfl) rfl rfl rfl ?_
  refine EL_nil ?_
  have hs4 := hm4.size
  have hs5 := hn5.size
  have hs6 := hu6.size
  have hs7 := hn7.size
  have hs8 := hn8.size
  have hm78 := hn7.mods.trans hn8.mods
  have hno26 : Mods No w2 w6 := hno3.trans' hm36 fun k hk e => by omega
  have hno28 := hno26.trans hm78
  have ho8 : w8.ownsRow w2.heap.size 35 2 (.slice Av (aheadK J.nA first L L.length).length cv) (aheadK J.nA first L L.length).length xa := hm78.own (hm36.own ho3 fun k hk e => by obtain ⟨_, cur, hc⟩ := own_blk ho3 hk; subst e; exact absurd (hc.inj hb3).2 (by decide)) fun _ _ h => h
  have hw8 : WLo w8 0 (aheadK J.nA first L L.length) xa := (hw3.mods hm36 fun g C hb e => by subst e; exact absurd (hb.inj hb3).2 (by decide)).mods hm78 fun _ _ _ h => h
  have h28 : OB 0 w8 (.slice A2 last.length c2) last := hno28.own h22 fun _ _ h => h
  have hb8 : Bk w8 ba #[.int .i64 (((J.nA + (L.length + 2)) % 40 : Nat) : Int)] 3 := hm78.bk' (hu6.mods.bk (hn5.mods.bk' hb4) (by have := hb3.lt; omega))
  have hP8 := hn8.bk
  have hE8 := hn8.mods.bk' hn7.bk
  have hj8 := hj2.no hno28
  have how8 := hno28.own how2 fun _ _ h => h
  have hwl8 := hwl2.mods hno28 fun _ _ _ h => h
  have hb8n : 64 ≤ J.st.n := hn
  obtain ⟨S1, hS1⟩ : ∃ S1, S1 = allS (putF J.st (blankL J.nA L.length)) := ⟨_, rfl⟩
  have hS1n : S1.n = J.st.n := by rw [hS1]; rfl
  have hS1o : ∀ i, i < J.st.n → S1.opn i = [] := fun i hi => by rw [hS1]; exact allS_opn hi
  obtain ⟨S2, hS2⟩ : ∃ S2, S2 = allS (putF S1 (aheadK J.nA first L L.length)) := ⟨_, rfl⟩
  have hS2n : S2.n = J.st.n := by rw [hS2]; exact hS1n
  have hS2o : ∀ i, i < J.st.n → S2.opn i = [] := fun i hi => by rw [hS2]; exact allS_opn (by show i < S1.n; omega)
  obtain ⟨S3, hS3⟩ : ∃ S3, S3 = allS (putF S2 [(plA J.nA (L.length + 1), last)]) := ⟨_, rfl⟩
  have hS3n : S3.n = J.st.n := by rw [hS3]; exact hS2n
  have hS3o : ∀ i, i < J.st.n → S3.opn i = [] := fun i hi => by rw [hS3]; exact allS_opn (by show i < S2.n; omega)
  have hlog : logS J.st J.nA L first last = S3 := by rw [hS3, hS2, hS1]; rfl
  rw [← hS1] at hj8
  clear hn8 hn7 hu6 hn5 hm4 hm36 hm78 hno26
  obtain ⟨bp, hbp⟩ : ∃ bp, bp = w7.heap.size := ⟨_, rfl⟩
  obtain ⟨be, hbe⟩ : ∃ be, be = w6.heap.size := ⟨_, rfl⟩
  rw [← hbe] at hP8 hE8
  rw [← hbp] at hP8 ⊢
  have hBw8 : B ≤ w8.heap.size := by have := hno28.size; omega
  refine E_cut (fun e0 w' => e0 = [(0, ptr j), (1, .slice (some ⟨ga, 0, none⟩) L.length c), (10, ptr ba)] ∧ JAt w' B d j { J with st := S3 } ∧ TM JT B w8 w') ?_ ?_
  · refine E_block ?_
    refine E_loop (fun m' e' w' => ∃ i S, i ≤ 2 ∧ m' = 2 - i ∧ e' = [(0, ptr j), (1, .slice (some ⟨ga, 0, none⟩) L.length c), (10, ptr ba), (57, .slice (some ⟨bp, 0, none⟩) 2 2), (58, .int .i64 2), (59, .int .i64 ((i : Nat) : Int))] ∧ JAt w' B d j { J with st := S } ∧ TM JT B w8 w' ∧ (i = 0 ∧ S = S1 ∨ i = 1 ∧ S = S2 ∨ i = 2 ∧ S = S3)) 2 [(0, ptr j), (1, .slice (some ⟨ga, 0, none⟩) L.length c), (10, ptr ba), (57, .slice (some ⟨bp, 0, none⟩) 2 2), (58, .int .i64 2), (59, .int .i64 ((0 : Nat) : Int))] ⟨rfl, rfl, rfl, rfl, rfl, rfl, trivial⟩
      ⟨0, S1, by omega, rfl, rfl, hj8, TM.refl, .inl ⟨rfl, rfl⟩⟩ ?_
    rintro m' e w9 ⟨i, S, hi, rfl, rfl, hj9, hm9, hcase⟩
    have hP9 := hm9.bk hP8 (by decide)
    have hs9 := hm9.size
    rcases hcase with ⟨rfl, rfl⟩ | ⟨rfl, rfl⟩ | ⟨rfl, rfl⟩
    · have how9 := hm9.own ho8 (by decide)
      have hwl9 := wl_tm hw8 hm9 (by decide)

      refine E_seqR ?_
      first | refine EL_val (R_lss_t rfl rfl (by omega)) rfl rfl rfl ?_ | refine EL_val (R_lss_f rfl rfl (by omega)) rfl rfl rfl ?_
      refine EL_nil ?_
      refine E_seq ?_
      refine E_cond_t rfl ?_
      refine E_skip ?_
      refine thenQ_n ?_
      refine E_seq ?_
      refine E_block ?_
      refine E_seqR ?_
      refine EL_val (R_indexAddr rfl rfl Try.underlying90 K.sz42 (m := 0) rfl (by omega)) rfl rfl rfl ?_
      refine EL_val (R_load rfl K.ag42 (hP9.cell rfl)) rfl rfl rfl ?_
      refine EL_val (R_assign rfl) rfl rfl rfl ?_
      refine EL_nil ?_
      refine E_seq ?_
      refine E_seqR ?_
      refine EL_val (R_move rfl) rfl rfl rfl ?_
      refine EL_val (R_nilCheck rfl) rfl rfl rfl ?_
      refine EL_val (R_fieldAddr rfl K.fT59_0) rfl rfl rfl ?_
      refine EL_val (R_load rfl K.ag29 (hj9.bj.cell rfl)) rfl rfl rfl ?_
      refine EL_val (R_move rfl) rfl rfl rfl ?_
      refine EL_step rfl ?_
      refine EO_call K.bd16 rfl rfl (put_on hj9.disk hj9.free (by omega) (hwl9.writes how9 (by omega)) cv (aheadK_good (by show 64 ≤ S.n; omega) hf64 fun p hp => (hg p hp).2.2) (fun i hi => by show (S.opn i).length + _ ≤ _; rw [hS1o i (by rw [← hS1n]; exact hi)]; simp; omega)) ?_
      rintro _ w10 ⟨rfl, hD10, hm10⟩
      (have hj10 := hj9.dm hD10 (putF_free hj9.free) hm10)
      refine EL_val (R_assign rfl) rfl rfl rfl ?_
      refine EL_nil ?_
      refine E_seqR ?_
      refine EL_val (R_move rfl) rfl rfl rfl ?_
      first | refine EL_val (R_neq_t rfl rfl (by omega)) rfl rfl rfl ?_ | refine EL_val (R_neq_f rfl rfl (by omega)) rfl rfl rfl ?_
      refine EL_nil ?_
      refine E_cond_f rfl ?_
      refine E_skip ?_
      refine thenQ_n ?_
      refine E_seqR ?_
      refine EL_val (R_move rfl) rfl rfl rfl ?_
      refine EL_val (R_nilCheck rfl) rfl rfl rfl ?_
      refine EL_val (R_fieldAddr rfl K.fT59_0) rfl rfl rfl ?_
      refine EL_val (R_load rfl K.ag29 (hj10.bj.cell rfl)) rfl rfl rfl ?_
      refine EL_step rfl ?_
      refine EO_call K.bd19 rfl rfl (barrier_on hj10.disk hj10.free) ?_
      rintro _ w11 ⟨rfl, hD11, hm11⟩
      refine EL_val (R_assign rfl) rfl rfl rfl ?_
      refine EL_nil ?_
      refine E_seqR ?_
      refine EL_val (R_move rfl) rfl rfl rfl ?_
      first | refine EL_val (R_neq_t rfl rfl (by omega)) rfl rfl rfl ?_ | refine EL_val (R_neq_f rfl rfl (by omega)) rfl rfl rfl ?_
      refine EL_nil ?_
      refine E_cond_f rfl ?_
      refine E_skip ?_
      refine inB_n ?_
      refine thenQ_n ?_
      refine E_region ?_
      first | refine EL_val (R_inc rfl (by omega)) rfl rfl rfl ?_ | refine EL_val (R_add_in rfl rfl (by omega) (by omega)) rfl rfl rfl ?_
      refine EL_val (R_move rfl) rfl rfl rfl ?_
      refine EL_nil ?_
      refine thenQ_n ?_
      exact ⟨rfl, 1, [(0, ptr j), (1, .slice (some ⟨ga, 0, none⟩) L.length c), (10, ptr ba), (57, .slice (some ⟨bp, 0, none⟩) 2 2), (58, .int .i64 2), (59, .int .i64 ((1 : Nat) : Int))], by omega, ⟨rfl, rfl, rfl, rfl, rfl, rfl, trivial⟩, 1, S2, by omega, rfl, rfl, by rw [hS2]; exact hj10.dm hD11 (allS_free hj10.free) hm11, (hm9.trans hm10.jt).trans hm11.jt, .inr (.inl ⟨rfl, rfl⟩)⟩
    · have hE9 := hm9.bk hE8 (by decide)
      have h29 := ob_tm h28 hm9 (by decide)

      refine E_seqR ?_
      first | refine EL_val (R_lss_t rfl rfl (by omega)) rfl rfl rfl ?_ | refine EL_val (R_lss_f rfl rfl (by omega)) rfl rfl rfl ?_
      refine EL_nil ?_
      refine E_seq ?_
      refine E_cond_t rfl ?_
      refine E_skip ?_
      refine thenQ_n ?_
      refine E_seq ?_
      refine E_block ?_
      refine E_seqR ?_
      refine EL_val (R_indexAddr rfl rfl Try.underlying90 K.sz42 (m := 1) rfl (by omega)) rfl rfl rfl ?_
      refine EL_val (R_load rfl K.ag42 (hP9.cell rfl)) rfl rfl rfl ?_
      refine EL_val (R_assign rfl) rfl rfl rfl ?_
      refine EL_nil ?_
      refine E_seq ?_
      refine E_seqR ?_
      refine EL_val (R_move rfl) rfl rfl rfl ?_
      refine EL_val (R_nilCheck rfl) rfl rfl rfl ?_
      refine EL_val (R_fieldAddr rfl K.fT59_0) rfl rfl rfl ?_
      refine EL_val (R_load rfl K.ag29 (hj9.bj.cell rfl)) rfl rfl rfl ?_
      refine EL_val (R_move rfl) rfl rfl rfl ?_
      refine EL_step rfl ?_
      refine EO_call K.bd16 rfl rfl (put_on hj9.disk hj9.free (by omega) (writes_one hE9 h29) 1 (fun p hp => by rw [List.mem_singleton.1 hp]; exact ⟨(plA_good (n := S.n) (by omega)).1, (plA_good (n := S.n) (by omega)).2, hl64⟩) (fun i hi => by show (S.opn i).length + _ ≤ _; rw [hS2o i (by rw [← hS2n]; exact hi)]; simp)) ?_
      rintro _ w10 ⟨rfl, hD10, hm10⟩
      (have hj10 := hj9.dm hD10 (putF_free hj9.free) hm10)
      refine EL_val (R_assign rfl) rfl rfl rfl ?_
      refine EL_nil ?_
      refine E_seqR ?_
      refine EL_val (R_move rfl) rfl rfl rfl ?_
      first | refine EL_val (R_neq_t rfl rfl (by omega)) rfl rfl rfl ?_ | refine EL_val (R_neq_f rfl rfl (by omega)) rfl rfl rfl ?_
      refine EL_nil ?_
      refine E_cond_f rfl ?_
      refine E_skip ?_
      refine thenQ_n ?_
      refine E_seqR ?_
      refine EL_val (R_move rfl) rfl rfl rfl ?_
      refine EL_val (R_nilCheck rfl) rfl rfl rfl ?_
      refine EL_val (R_fieldAddr rfl K.fT59_0) rfl rfl rfl ?_
      refine EL_val (R_load rfl K.ag29 (hj10.bj.cell rfl)) rfl rfl rfl ?_
      refine EL_step rfl ?_
      refine EO_call K.bd19 rfl rfl (barrier_on hj10.disk hj10.free) ?_
      rintro _ w11 ⟨rfl, hD11, hm11⟩
      refine EL_val (R_assign rfl) rfl rfl rfl ?_
      refine EL_nil ?_
      refine E_seqR ?_
      refine EL_val (R_move rfl) rfl rfl rfl ?_
      first | refine EL_val (R_neq_t rfl rfl (by omega)) rfl rfl rfl ?_ | refine EL_val (R_neq_f rfl rfl (by omega)) rfl rfl rfl ?_
      refine EL_nil ?_
      refine E_cond_f rfl ?_
      refine E_skip ?_
      refine inB_n ?_
      refine thenQ_n ?_
      refine E_region ?_
      first | refine EL_val (R_inc rfl (by omega)) rfl rfl rfl ?_ | refine EL_val (R_add_in rfl rfl (by omega) (by omega)) rfl rfl rfl ?_
      refine EL_val (R_move rfl) rfl rfl rfl ?_
      refine EL_nil ?_
      refine thenQ_n ?_
      exact ⟨rfl, 0, [(0, ptr j), (1, .slice (some ⟨ga, 0, none⟩) L.length c), (10, ptr ba), (57, .slice (some ⟨bp, 0, none⟩) 2 2), (58, .int .i64 2), (59, .int .i64 ((2 : Nat) : Int))], by omega, ⟨rfl, rfl, rfl, rfl, rfl, rfl, trivial⟩, 2, S3, by omega, rfl, rfl, by rw [hS3]; exact hj10.dm hD11 (allS_free hj10.free) hm11, (hm9.trans hm10.jt).trans hm11.jt, .inr (.inr ⟨rfl, rfl⟩)⟩
    · skip
      refine E_seqR ?_
      first | refine EL_val (R_lss_t rfl rfl (by omega)) rfl rfl rfl ?_ | refine EL_val (R_lss_f rfl rfl (by omega)) rfl rfl rfl ?_
      refine EL_nil ?_
      refine E_seq ?_
      refine E_cond_f rfl ?_
      refine E_exit ?_
      refine thenQ_e ?_
      refine thenQ_e ?_
      refine inB_eq rfl ?_
      refine thenQ_n ?_
      exact ⟨rfl, [(0, ptr j), (1, .slice (some ⟨ga, 0, none⟩) L.length c), (10, ptr ba)], ⟨rfl, rfl, rfl, trivial⟩, rfl, hj9, hm9⟩
  rintro e0 w9 ⟨rfl, hj9, hm9⟩
  have hb9 := hm9.bk hb8 (by decide)
  have hs9 := hm9.size
  have how9 := hm9.own how8 (by decide)
  have hwl9 := wl_tm hwl8 hm9 (by decide)

  refine E_seqD (fun w' => [(11, fun w'' => w'' = w')]) 12 K.mix rfl ?_
  intro w23d hm23d hh23d
  (have hj10 := hj9.no hm23d; have hb10 : Bk w23d j #[ptr d, .int .i64 (J.hA : Int), .int .i64 J.hS, .int .i64 (J.nA : Int), .int .i64 J.nS, .int .i64 (J.used : Int), .bool false] 59 := hj10.bj)
  refine EA_pure 0 rfl (fun _ => R_move rfl) (by kernel_rfl) rfl rfl rfl ?_
  refine EA_still 1 [8, 9, 10, 11] rfl (R_load rfl K.ag3 ((hm23d.bk' hb9).cell rfl)) rfl (by kernel_rfl) (by kernel_rfl) rfl rfl rfl ?_
  refine EA_pure 2 rfl (fun _ => R_move rfl) (by kernel_rfl) rfl rfl rfl ?_
  refine EA_pure 3 rfl (fun _ => R_nilCheck rfl) (by kernel_rfl) rfl rfl rfl ?_
  refine EA_pure 4 rfl (fun _ => R_fieldAddr rfl K.fT59_2) (by kernel_rfl) rfl rfl rfl ?_
  refine EA_pure 5 rfl (fun _ => R_fieldAddr rfl K.fT46_1) (by kernel_rfl) rfl rfl rfl ?_
  refine EA_still 6 [7, 8, 9, 10, 11] rfl (R_load rfl K.ag3 (hb10.cell rfl)) rfl (by kernel_rfl) (by kernel_rfl) rfl rfl rfl ?_
  refine EA_pure 7 rfl (fun _ => R_addE ((J.nS + 1)) rfl rfl (by omega) (by omega) (by omega)) (by kernel_rfl) rfl rfl rfl ?_
  refine EA_pure 8 rfl (fun _ => R_build (cells := #[.int .i64 (((J.nA + (L.length + 2)) % 40 : Nat) : Int), .int .i64 (J.nS + 1)]) K.zr46 K.pl46 rfl rfl) (by kernel_rfl) rfl rfl rfl ?_
  refine EA_pure 9 rfl (fun _ => R_nilCheck rfl) (by kernel_rfl) rfl rfl rfl ?_
  refine EA_pure 10 rfl (fun _ => R_fieldAddr rfl K.fT59_2) (by kernel_rfl) rfl rfl rfl ?_
  refine EA_one 11 rfl (by kernel_rfl) rfl ⟨fun _ => rfl, trivial⟩ ?_
  refine EO_storeAggB hb10 rfl rfl K.sz46 rfl rfl ?_
  intro w11 hu11
  (have hb11 : Bk w11 j #[ptr d, .int .i64 (J.hA : Int), .int .i64 J.hS, .int .i64 (((J.nA + (L.length + 2)) % 40 : Nat) : Int), .int .i64 (J.nS + 1), .int .i64 (J.used : Int), .bool false] 59 := hu11.bk)
  refine EA_done (by kernel_rfl) (Holds.done (by kernel_rfl)) ?_
  refine E_seqR ?_
  refine EL_val (R_move rfl) rfl rfl rfl ?_
  refine EL_val (R_nilCheck rfl) rfl rfl rfl ?_
  refine EL_val (R_fieldAddr rfl K.fT59_3) rfl rfl rfl ?_
  refine EL_val (R_load rfl K.ag3 (hb11.cell rfl)) rfl rfl rfl ?_
  refine EL_val (R_move rfl) rfl rfl rfl ?_
  refine EL_val (R_lenSlice rfl Try.underlying42) rfl rfl rfl ?_
  refine EL_val (R_addE (((L.length + 2 : Nat) : Int)) rfl rfl (by omega) (by omega) (by omega)) rfl rfl rfl ?_
  refine EL_val (R_addE (((J.used + L.length + 2 : Nat) : Int)) rfl rfl (by omega) (by omega) (by omega)) rfl rfl rfl ?_
  refine EL_val (R_nilCheck rfl) rfl rfl rfl ?_
  refine EL_val (R_fieldAddr rfl K.fT59_3) rfl rfl rfl ?_
  refine EL_step rfl ?_
  refine EO_store1 rfl rfl K.sz3 rfl hb11 (by show 5 < 7; omega) ?_
  intro w12 hu12
  (have hj12 : JAt w12 B d j ⟨S3, J.hA, J.hS, (J.nA + (L.length + 2)) % 40, J.nS + 1, J.used + L.length + 2⟩ := ⟨hu12.bk, ((hj10.disk.mods hu11.mods fun i hf e => (by subst e; exact foot_not hj10.bj (by decide) hf)).mods hu12.mods fun i hf e => (by subst e; exact foot_not hb11 (by decide) hf)), hj10.free, hj9.le⟩;  have hm12 : TM JT B w9 w12 := ((TM.of_no hm23d).trans (TM.upd hu11 hj10.bj hj9.le (by decide))).trans (TM.upd hu12 hb11 hj9.le (by decide)); have hs12 := hm12.size; have how12 := hm12.own how9 (by decide); have hwl12 := wl_tm hwl9 hm12 (by decide))
  refine EL_nil ?_
  refine E_seqR ?_
  refine EL_val (R_move rfl) rfl rfl rfl ?_
  refine EL_val (R_nilCheck rfl) rfl rfl rfl ?_
  refine EL_val (R_fieldAddr rfl K.fT59_0) rfl rfl rfl ?_
  refine EL_val (R_load rfl K.ag29 (hj12.bj.cell rfl)) rfl rfl rfl ?_
  refine EL_val (R_move rfl) rfl rfl rfl ?_
  refine EL_step rfl ?_
  refine EO_call K.bd16 rfl rfl (put_on hj12.disk hj12.free (by omega) (hwl12.writes how12 (by omega)) c (fun p hp => by have := hg p hp; exact ⟨this.1, by show p.1 < (S3.n : Int); omega, this.2.2⟩) (fun i hi => by show (S3.opn i).length + _ ≤ _; rw [hS3o i (by rw [← hS3n]; exact hi)]; simp; omega)) ?_
  rintro _ w13 ⟨rfl, hD13, hm13⟩
  refine EL_val (R_assign rfl) rfl rfl rfl ?_
  refine EL_nil ?_
  refine E_ret ?_
  refine ret1 (.inr rfl) rfl rfl ?_
  have hj13 := hj12.dm hD13 (putF_free hj12.free) hm13
  refine ⟨rfl, ?_, (((hm2.trans (TM.of_no hno28)).trans hm9).trans hm12).trans hm13.jt⟩
  unfold writeJ
  rw [hlog]
  exact hj13
end Go.Proofs.Ytobhogdndfbniaa
