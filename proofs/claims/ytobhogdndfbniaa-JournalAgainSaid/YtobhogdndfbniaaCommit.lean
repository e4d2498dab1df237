/- What the journal writes for a transaction (journal.blank, write). -/
import Derived.Test.YtobhogdndfbniaaJour
import Derived.Test.YtobhogdndfbniaaDefer
set_option linter.unusedVariables false
set_option linter.unusedSimpArgs false
set_option maxRecDepth 100000
namespace Go.Proofs.Ytobhogdndfbniaa
open Go.EW Go.RowKit

/-- a place in the log, q blocks behind the next transaction's beginning -/
def plA (nA q : Nat) : Int := ((19 + (nA + q) % 40 : Nat) : Int)
def blankQ (m : Nat) : List Nat := [0, m + 1, m + 2]
def blankL (nA m : Nat) : List (Int × List UInt8) := (blankQ m).map fun q => (plA nA q, zerosB 64)
theorem plA_good {n nA q : Nat} (hn : 64 ≤ n) : 0 ≤ plA nA q ∧ plA nA q < (n : Int) := by unfold plA; omega
theorem blankL_good {n nA m : Nat} (hn : 64 ≤ n) : GoodW n (blankL nA m) := fun p hp => by
  obtain ⟨q, _, rfl⟩ := List.mem_map.1 hp
  exact ⟨(plA_good hn).1, (plA_good hn).2, by simp [zerosB]⟩
/-- a piece of writes of the call's own goes one further -/
theorem wl_app {w w' : World} {B base : Nat} {L : List (Int × List UInt8)} {xs : List Value} {v v' y : Value} {a : Int} {l : List UInt8} (how : w.ownsRow base 35 2 v L.length xs) (hwl : WLo w B L xs) (hm : Mods (fun i => some i = v.ownBlock) w w') (ho : w'.ownsRow base 35 2 v' (L.length + 1) (xs ++ [.int .i64 a, y])) (hy : OB B w y l) :
    w'.ownsRow base 35 2 v' (L ++ [(a, l)]).length (xs ++ [.int .i64 a, y]) ∧ WLo w' B (L ++ [(a, l)]) (xs ++ [.int .i64 a, y]) := by
  refine ⟨by rw [List.length_append]; exact ho, (hwl.snoc hy).mods hm fun g C hb e => ?_⟩
  obtain ⟨_, cur, hc⟩ := own_blk how e.symm
  exact absurd (hb.inj hc).2 (by decide)
set_option maxHeartbeats 1000000 in
theorem blank_ok {w : World} {B d j : Nat} {J : JS} (h : JAt w B d j J) (hB : B ≤ w.heap.size) (hA : J.nA < 40) (hn : 64 ≤ J.st.n) (hroom : ∀ i, i < J.st.n → (J.st.opn i).length ≤ 1000) {m : Nat} (hm20 : m ≤ 20) :
    Ret Try.prog 40 [ptr j, .int .i64 (m : Int)] w fun v w' => v = .int .i64 0 ∧ JAt w' B d j { J with st := allS (putF J.st (blankL J.nA m)) } ∧ TM JT B w w' := by
  have hql : (blankQ m).length = 3 := rfl
  refine Ret.enter Try.func40 rfl Try.ntmps40 rfl ?_
  simp only [argEnv, Nat.reduceAdd]
  refine E_seqR ?_
  refine EL_val (R_assign rfl) rfl rfl rfl ?_
  refine EL_nil ?_
  refine E_seqR ?_
  refine EL_val (R_assign rfl) rfl rfl rfl ?_
  refine EL_nil ?_
  refine E_seq ?_
  refine E_seqR ?_
  refine EL_val (R_move rfl) rfl rfl rfl ?_
  refine EL_val (R_addE (((m + 1 : Nat) : Int)) rfl rfl (by omega) (by omega) (by omega)) rfl rfl rfl ?_
  refine EL_val (R_move rfl) rfl rfl rfl ?_
  refine EL_val (R_addE (((m + 2 : Nat) : Int)) rfl rfl (by omega) (by omega) (by omega)) rfl rfl rfl ?_
  refine EL_step rfl ?_
  refine EO_buildSlice Try.underlying54 K.zr3 K.sz3 rfl rfl rfl (cells := #[.int .i64 0, .int .i64 ((m + 1 : Nat) : Int), .int .i64 ((m + 2 : Nat) : Int)]) (by kernel_rfl) rfl ?_
  intro w1 hn1
  refine EL_val (R_lenSlice rfl Try.underlying54) rfl rfl rfl ?_
  refine EL_val (R_move rfl) rfl rfl rfl ?_
  refine EL_nil ?_
  have hI1 : Bk w1 w.heap.size ((blankQ m).map fun q : Nat => Value.int .i64 (q : Int)).toArray 3 := hn1.bk
  obtain ⟨bq, hbq⟩ : ∃ bq, bq = w.heap.size := ⟨_, rfl⟩
  rw [← hbq] at hI1 ⊢
  refine E_cut (fun e0 w' => ∃ v xs, e0 = [(0, ptr j), (5, v)] ∧ Mods No w w' ∧ w'.ownsRow w.heap.size 35 2 v (blankL J.nA m).length xs ∧ WLo w' w.heap.size (blankL J.nA m) xs) ?_ ?_
  · refine E_block ?_
    refine E_loop (fun m' e' w' => ∃ i v xs, i ≤ 3 ∧ m' = 3 - i ∧ e' = [(0, ptr j), (5, v), (14, .slice (some ⟨bq, 0, none⟩) 3 3), (15, .int .i64 3), (16, .int .i64 ((i : Nat) : Int))] ∧ Mods No w w' ∧ Bk w' bq ((blankQ m).map fun q : Nat => Value.int .i64 (q : Int)).toArray 3 ∧ w'.ownsRow w.heap.size 35 2 v ((blankL J.nA m).take i).length xs ∧ WLo w' w.heap.size ((blankL J.nA m).take i) xs) 3 [(0, ptr j), (5, .slice none 0 0), (14, .slice (some ⟨bq, 0, none⟩) 3 3), (15, .int .i64 3), (16, .int .i64 ((0 : Nat) : Int))] ⟨rfl, rfl, rfl, rfl, rfl, trivial⟩
      ⟨0, _, [], by omega, rfl, rfl, hn1.mods, hI1, World.ownsRow_nil _ _ _ _, trivial⟩ ?_
    clear hI1 hn1
    rintro m' e w2 ⟨i, v, xs, hi, rfl, rfl, hno2, hI2, hov, hwl⟩
    by_cases hlt : i < 3
    · have hz2 := hno2.size
      have hil : i < (blankQ m).length := by rw [hql]; exact hlt
      obtain ⟨q, hq⟩ : ∃ q, q = (blankQ m)[i] := ⟨_, rfl⟩
      have hq22 : q ≤ 22 := by
        have h1 : (blankQ m)[i] ∈ blankQ m := List.getElem_mem hil
        rw [← hq] at h1
        simp [blankQ] at h1
        omega
      have hcq : w2.cell? ⟨bq, 0 + i, none⟩ = some (.int .i64 (q : Int)) := hI2.cell (by
        rw [Nat.zero_add]
        simp [List.getElem?_eq_getElem hil, hq])
      have hpl : plA J.nA q = ((19 + (J.nA + q) % 40 : Nat) : Int) := rfl
      have hlen : ((blankL J.nA m).take i).length = i := by simp [blankL]; omega
      have htk : (blankL J.nA m).take (i + 1) = (blankL J.nA m).take i ++ [(plA J.nA q, zerosB 64)] := by
        rw [List.take_succ_eq_append_getElem (by simp [blankL]; omega)]
        congr 1
        simp [blankL, hq]
      have hj2 := h.no hno2

      refine E_seqR ?_
      first | refine EL_val (R_lss_t rfl rfl (by omega)) rfl rfl rfl ?_ | refine EL_val (R_lss_f rfl rfl (by omega)) rfl rfl rfl ?_
      refine EL_nil ?_
      refine E_seq ?_
      refine E_cond_t rfl ?_
      refine E_skip ?_
      refine thenQ_n ?_
      refine E_seq ?_
      refine E_block ?_
      refine E_seqR ?_
      refine EL_val (R_indexAddr rfl rfl Try.underlying54 K.sz3 (m := i) rfl hlt) rfl rfl rfl ?_
      refine EL_val (R_load rfl K.ag3 ((by rw [Nat.mul_one]; exact hcq))) rfl rfl rfl ?_
      refine EL_val (R_assign rfl) rfl rfl rfl ?_
      refine EL_nil ?_
      refine E_seqR ?_
      refine EL_val (R_move rfl) rfl rfl rfl ?_
      refine EL_val (R_nilCheck rfl) rfl rfl rfl ?_
      refine EL_val (R_fieldAddr rfl K.fT59_2) rfl rfl rfl ?_
      refine EL_val (R_fieldAddr rfl K.fT46_0) rfl rfl rfl ?_
      refine EL_val (R_load rfl K.ag3 (hj2.bj.cell rfl)) rfl rfl rfl ?_
      refine EL_val (R_move rfl) rfl rfl rfl ?_
      refine EL_val (R_addE (((J.nA + q : Nat) : Int)) rfl rfl (by omega) (by omega) (by omega)) rfl rfl rfl ?_
      refine EL_val (R_remE (((J.nA + q) % 40 : Nat) : Int) (by omega) (by omega) (by omega) rfl rfl) rfl rfl rfl ?_
      refine EL_val (R_assign rfl) rfl rfl rfl ?_
      refine EL_nil ?_
      refine E_region ?_
      refine EL_val (R_move rfl) rfl rfl rfl ?_
      refine EL_val (R_move rfl) rfl rfl rfl ?_
      refine EL_val (R_addE ((plA J.nA q)) rfl rfl (by omega) (by omega) (by omega)) rfl rfl rfl ?_
      refine EL_step rfl ?_
      refine EO_makeSlice 64 64 rfl rfl Try.underlying23 K.zr5 K.sz5 K.by5 (by first | rfl | omega) (by first | rfl | omega) (by omega) (by omega) (by omega) rfl ?_
      intro w3 hn3
      refine EL_val (R_build (cells := #[.int .i64 (plA J.nA q), .slice (some ⟨w2.heap.size, 0, none⟩) 64 64]) K.zr35 K.pl35 rfl rfl) rfl rfl rfl ?_
      refine EL_step rfl ?_
      refine EO_buildSlice Try.underlying42 K.zr35 K.sz35 rfl rfl rfl (fill_whole rfl (by rw [size_madeCells])) rfl ?_
      intro w4 hn4
      refine EL_step rfl ?_
      refine EO_append rfl rfl Try.underlying42 K.sz35 K.zr35 K.by35 rfl (by decide) ((hn3.mods.trans hn4.mods).own hov fun _ _ h => h) (Src.bk hn4.bk 1 2 [.int .i64 (plA J.nA q), .slice (some ⟨w2.heap.size, 0, none⟩) 64 64] rfl (fun q' u hq' => by rw [Nat.zero_add]; show (#[.int .i64 (plA J.nA q), .slice (some ⟨w2.heap.size, 0, none⟩) 64 64] : Array Value)[q']? = some u; simpa using hq')) (by simp [Value.oneCell']) (by simp only [maxLen]; omega) (by omega) (by have := hn3.size; have := hn4.size; omega) rfl ?_
      intro v5 w5 ho5 hm5 hat5
      refine EL_val (R_assign rfl) rfl rfl rfl ?_
      refine EL_nil ?_
      refine inB_n ?_
      refine thenQ_n ?_
      refine E_region ?_
      first | refine EL_val (R_inc rfl (by omega)) rfl rfl rfl ?_ | refine EL_val (R_add_in rfl rfl (by omega) (by omega)) rfl rfl rfl ?_
      refine EL_val (R_move rfl) rfl rfl rfl ?_
      refine EL_nil ?_
      refine thenQ_n ?_
      have hm24 := hn3.mods.trans hn4.mods
      have ho4 := hm24.own hov fun _ _ h => h
      have hob : OB w.heap.size w4 (.slice (some ⟨w2.heap.size, 0, none⟩) 64 64) (zerosB 64) := hn4.mods.own (OB.new hn3 (by omega) (by simp only [maxLen]; omega)) fun _ _ h => h
      obtain ⟨r1, r2⟩ := wl_app ho4 (hwl.mods hm24 fun _ _ _ h => h) hm5 ho5 hob
      rw [← htk] at r1 r2
      have hne : ∀ {C : Array Value} {t : TypeId}, Bk w4 bq C t → t ≠ 35 → ¬ (some bq = v.ownBlock) := fun hb ht e => by
        obtain ⟨_, cur, hc⟩ := own_blk ho4 e.symm
        exact ht (hb.inj hc).2
      have hno5 : Mods No w w5 := (hno2.trans hm24).trans' hm5 fun k hk e => by have := (own_blk ho4 e.symm).1; omega
      have hI5 := hm5.bk (hm24.bk' hI2) (hne (hm24.bk' hI2) (by decide))
      exact ⟨rfl, 3 - (i + 1), [(0, ptr j), (5, v5), (14, .slice (some ⟨bq, 0, none⟩) 3 3), (15, .int .i64 3), (16, .int .i64 ((i + 1 : Nat) : Int))], by omega, ⟨rfl, rfl, rfl, rfl, rfl, trivial⟩, i + 1, v5, _, by omega, rfl, rfl, hno5, hI5, r1, r2⟩
    · have hi' : i = 3 := by omega
      subst hi'
      have hall : (blankL J.nA m).take 3 = blankL J.nA m := List.take_of_length_le (by simp [blankL, blankQ])
      rw [hall] at hov hwl

      refine E_seqR ?_
      first | refine EL_val (R_lss_t rfl rfl (by omega)) rfl rfl rfl ?_ | refine EL_val (R_lss_f rfl rfl (by omega)) rfl rfl rfl ?_
      refine EL_nil ?_
      refine E_seq ?_
      refine E_cond_f rfl ?_
      refine E_exit ?_
      refine thenQ_e ?_
      refine thenQ_e ?_
      refine inB_eq rfl ?_
      refine thenQ_n ?_
      exact ⟨rfl, [(0, ptr j), (5, v)], ⟨rfl, rfl, trivial⟩, v, xs, rfl, hno2, hov, hwl⟩
  clear hI1 hn1
  rintro e0 w2 ⟨v, xs, rfl, hno2, hov, hwl⟩
  obtain ⟨Av, cv, rfl, _, _⟩ := own_sl hov
  have hj2 := h.no hno2
  have hz2 := hno2.size
  refine E_seq ?_
  refine E_seqR ?_
  refine EL_val (R_move rfl) rfl rfl rfl ?_
  refine EL_val (R_nilCheck rfl) rfl rfl rfl ?_
  refine EL_val (R_fieldAddr rfl K.fT59_0) rfl rfl rfl ?_
  refine EL_val (R_load rfl K.ag29 (hj2.bj.cell rfl)) rfl rfl rfl ?_
  refine EL_val (R_move rfl) rfl rfl rfl ?_
  refine EL_step rfl ?_
  refine EO_call K.bd16 rfl rfl (put_on hj2.disk hj2.free (by omega) (hwl.writes hov (by simp [blankL, blankQ])) cv (blankL_good hn) (fun i hi => by have := hroom i hi; simp [blankL, blankQ]; omega)) ?_
  rintro _ w3 ⟨rfl, hD3, hm3⟩
  (have hj3 := hj2.dm hD3 (putF_free hj2.free) hm3)
  refine EL_val (R_assign rfl) rfl rfl rfl ?_
  refine EL_nil ?_
  refine E_seqR ?_
  refine EL_val (R_move rfl) rfl rfl rfl ?_
  first | refine EL_val (R_neq_t rfl rfl (by omega)) rfl rfl rfl ?_ | refine EL_val (R_neq_f rfl rfl (by omega)) rfl rfl rfl ?_
  refine EL_nil ?_
  refine E_cond_f rfl ?_
  refine E_skip ?_
  refine thenQ_n ?_
  refine E_seqR ?_
  refine EL_val (R_move rfl) rfl rfl rfl ?_
  refine EL_val (R_nilCheck rfl) rfl rfl rfl ?_
  refine EL_val (R_fieldAddr rfl K.fT59_0) rfl rfl rfl ?_
  refine EL_val (R_load rfl K.ag29 (hj3.bj.cell rfl)) rfl rfl rfl ?_
  refine EL_step rfl ?_
  refine EO_call K.bd19 rfl rfl (barrier_on hj3.disk hj3.free) ?_
  rintro _ w4 ⟨rfl, hD4, hm4⟩
  refine EL_val (R_assign rfl) rfl rfl rfl ?_
  refine EL_nil ?_
  refine E_ret ?_
  refine ret1 (.inr rfl) rfl rfl ?_
  exact ⟨rfl, hj3.dm hD4 (allS_free hj3.free) hm4, ((TM.of_no hno2).trans hm3.jt).trans hm4.jt⟩
end Go.Proofs.Ytobhogdndfbniaa
