/- The disk: New, Restart. -/
import Derived.Test.YtobhogdndfbniaaDiskD
set_option linter.unusedVariables false
set_option linter.unusedSimpArgs false
set_option maxRecDepth 100000
namespace Go.Proofs.Ytobhogdndfbniaa
open Go.EW Go.RowKit

def zeros64 : List UInt8 := List.replicate 64 0
def newS (n : Nat) : DS := { off := false, left := -1, n := n, last := fun _ => zeros64, opn := fun _ => [] }
theorem new_bad {w : World} {n : Int} (h : n < 1 ∨ 480 < n) : Ret Try.prog 12 [.int .i64 n] w fun v w' => v = .tuple #[.pointer none, .int .i64 1] ∧ w = w' := by
  by_cases h1 : n < 1
  · refine Ret.enter Try.func12 rfl Try.ntmps12 rfl ?_
    simp only [argEnv, Nat.reduceAdd]
    refine E_seqR ?_
    refine EL_val (R_assign rfl) rfl rfl rfl ?_
    refine EL_val (R_assign rfl) rfl rfl rfl ?_
    refine EL_nil ?_
    refine E_seq ?_
    refine E_seqR ?_
    refine EL_val (R_move rfl) rfl rfl rfl ?_
    first | refine EL_val (R_lss_t rfl rfl (by omega)) rfl rfl rfl ?_ | refine EL_val (R_lss_f rfl rfl (by omega)) rfl rfl rfl ?_
    refine EL_val (R_move rfl) rfl rfl rfl ?_
    refine EL_not rfl rfl rfl ?_
    refine EL_not rfl rfl rfl ?_
    first | refine EL_val (R_pick_t rfl rfl) rfl rfl rfl ?_ | refine EL_val (R_pick_f rfl rfl) rfl rfl rfl ?_
    refine EL_nil ?_
    refine E_cond_t rfl ?_
    refine E_seqR ?_
    refine EL_val (R_assign rfl) rfl rfl rfl ?_
    refine EL_val (R_assign rfl) rfl rfl rfl ?_
    refine EL_nil ?_
    refine E_ret ?_
    refine thenQ_r ?_
    refine ret2 (.inr rfl) rfl rfl rfl ?_
    exact ⟨rfl, rfl⟩
  · have h2 : 480 < n := by omega
    refine Ret.enter Try.func12 rfl Try.ntmps12 rfl ?_
    simp only [argEnv, Nat.reduceAdd]
    refine E_seqR ?_
    refine EL_val (R_assign rfl) rfl rfl rfl ?_
    refine EL_val (R_assign rfl) rfl rfl rfl ?_
    refine EL_nil ?_
    refine E_seq ?_
    refine E_seqR ?_
    refine EL_val (R_move rfl) rfl rfl rfl ?_
    first | refine EL_val (R_lss_t rfl rfl (by omega)) rfl rfl rfl ?_ | refine EL_val (R_lss_f rfl rfl (by omega)) rfl rfl rfl ?_
    refine EL_val (R_move rfl) rfl rfl rfl ?_
    first | refine EL_val (R_move rfl) rfl rfl rfl ?_ | refine EL_not rfl rfl rfl ?_
    first | refine EL_val (R_gtr_t rfl rfl (by omega)) rfl rfl rfl ?_ | refine EL_val (R_gtr_f rfl rfl (by omega)) rfl rfl rfl ?_ | refine EL_not rfl rfl rfl ?_
    first | refine EL_val (R_pick_t rfl rfl) rfl rfl rfl ?_ | refine EL_val (R_pick_f rfl rfl) rfl rfl rfl ?_
    refine EL_nil ?_
    refine E_cond_t rfl ?_
    refine E_seqR ?_
    refine EL_val (R_assign rfl) rfl rfl rfl ?_
    refine EL_val (R_assign rfl) rfl rfl rfl ?_
    refine EL_nil ?_
    refine E_ret ?_
    refine thenQ_r ?_
    refine ret2 (.inr rfl) rfl rfl rfl ?_
    exact ⟨rfl, rfl⟩
theorem new_ok {w : World} {n B : Nat} (h1 : 1 ≤ n) (h2 : n ≤ 480) (hB : B ≤ w.heap.size) :
    Ret Try.prog 12 [.int .i64 (n : Int)] w fun v w' => ∃ d, v = .tuple #[ptr d, .int .i64 0] ∧ Disk w' B d (newS n) ∧ Mods No w w' := by
  refine Ret.enter Try.func12 rfl Try.ntmps12 rfl ?_
  simp only [argEnv, Nat.reduceAdd]
  refine E_seqR ?_
  refine EL_val (R_assign rfl) rfl rfl rfl ?_
  refine EL_val (R_assign rfl) rfl rfl rfl ?_
  refine EL_nil ?_
  refine E_seq ?_
  refine E_seqR ?_
  refine EL_val (R_move rfl) rfl rfl rfl ?_
  first | refine EL_val (R_lss_t rfl rfl (by omega)) rfl rfl rfl ?_ | refine EL_val (R_lss_f rfl rfl (by omega)) rfl rfl rfl ?_
  refine EL_val (R_move rfl) rfl rfl rfl ?_
  first | refine EL_val (R_move rfl) rfl rfl rfl ?_ | refine EL_not rfl rfl rfl ?_
  first | refine EL_val (R_gtr_t rfl rfl (by omega)) rfl rfl rfl ?_ | refine EL_val (R_gtr_f rfl rfl (by omega)) rfl rfl rfl ?_ | refine EL_not rfl rfl rfl ?_
  first | refine EL_val (R_pick_t rfl rfl) rfl rfl rfl ?_ | refine EL_val (R_pick_f rfl rfl) rfl rfl rfl ?_
  refine EL_nil ?_
  refine E_cond_f rfl ?_
  refine E_skip ?_
  refine thenQ_n ?_
  refine E_seqR ?_
  refine EL_val (R_build (cells := #[.bool false, .int .i64 (-1)]) K.zr67 K.pl67 rfl rfl) rfl rfl rfl ?_
  refine EL_val (R_move rfl) rfl rfl rfl ?_
  refine EL_step rfl ?_
  refine EO_makeSlice n n rfl rfl Try.underlying68 K.zr74 K.sz74 K.by74 (by first | rfl | omega) (by first | rfl | omega) (by omega) (by omega) (by omega) rfl ?_
  intro w1 hn1
  refine EL_val (R_build (cells := #[.bool false, .int .i64 (-1), .slice (some ⟨w.heap.size, 0, none⟩) n n]) K.zr70 K.pl70 rfl rfl) rfl rfl rfl ?_
  refine EL_step rfl ?_
  refine EO_box rfl rfl ?_
  intro w2 hn2
  refine EL_val (R_assign rfl) rfl rfl rfl ?_
  refine EL_val (R_assign rfl) rfl rfl rfl ?_
  refine EL_nil ?_
  refine E_ret ?_
  refine ret2 (.inr rfl) rfl rfl rfl ?_
  have hlt := hn1.size
  have hz : (Array.replicate 64 (Value.int .u8 0) ++ #[Value.slice none 0 0]).size = 65 := rfl
  refine ⟨w1.heap.size, rfl, ⟨w.heap.size, _, fun _ => .slice none 0 0, ⟨hn2.bk, hn2.mods.bk' hn1.bk, by omega, hB, h2, by simp [newS], by simp [newS], ?_, ?_, ?_, ?_, ?_⟩⟩, hn1.mods.trans hn2.mods⟩
  · exact size_madeCells _ _
  · intro i hi
    have hi' : i < n := hi
    refine ⟨rfl, fun j v hv => ?_⟩
    have hj : j < 64 := by
      have := (Array.getElem?_eq_some_iff.1 hv).1
      rw [bv_size] at this
      exact this
    show (madeCells (Array.replicate 64 (Value.int .u8 0) ++ #[Value.slice none 0 0]) (n * 65))[i * 65 + j]? = some v
    rw [madeCells_at (by omega) (by decide), hz, show (i * 65 + j) % 65 = j from by omega]
    have hb : bv zeros64 = Array.replicate 64 (Value.int .u8 0) := bv_replicate 64
    rw [show (newS n).last i = zeros64 from rfl, hb] at hv
    rw [Array.getElem?_append_left (by simpa using hj)]
    exact hv
  · intro i hi
    have hi' : i < n := hi
    show (madeCells (Array.replicate 64 (Value.int .u8 0) ++ #[Value.slice none 0 0]) (n * 65))[i * 65 + 64]? = some (.slice none 0 0)
    rw [madeCells_at (by omega) (by decide), hz, show (i * 65 + 64) % 65 = 64 from by omega]
    rfl
  · intro i hi
    exact ⟨by simp [newS], World.ownsRow_nil _ _ _ _⟩
  · intro i j k _ _ _ hk
    cases hk
/-- the numbers that a slice of ints holds -/
def Ints (w : World) (A : Option Addr) (m : Nat) (ks : List Int) : Prop := ks.length = m ∧ m ≤ 9223372036854775807 ∧ (0 < m → ∃ g i, A = some ⟨g, i, none⟩ ∧ ∀ (k : Nat) (x : Int), ks[k]? = some x → w.cell? ⟨g, i + k, none⟩ = some (.int .i64 x))
def IntsOff (B : Nat) (w : World) (A : Option Addr) (m : Nat) (ks : List Int) : Prop := Ints w A m ks ∧ ∀ g i, 0 < m → A = some ⟨g, i, none⟩ → ¬ foot B w g
theorem IntsOff.dm {B : Nat} {w w' : World} {A : Option Addr} {m : Nat} {ks : List Int} (h : IntsOff B w A m ks) (hm : DM B w w') : IntsOff B w' A m ks := by
  obtain ⟨⟨h1, h2, h3⟩, h4⟩ := h
  refine ⟨⟨h1, h2, fun h0 => ?_⟩, fun g i h0 hA hf => ?_⟩
  · obtain ⟨g, i, hA, hc⟩ := h3 h0
    exact ⟨g, i, hA, fun k x hk => Mods.cell hm (hc k x hk) (h4 g i h0 hA)⟩
  · obtain ⟨g', i', hA', hc⟩ := h3 h0
    rw [hA] at hA'
    injection hA' with hA'
    injection hA' with hg hi
    subst hg
    have hlt : g < w.heap.size := World.block_lt_of_cell? w _ (hc 0 ks[0] (List.getElem?_eq_getElem (by omega)))
    exact h4 g i h0 hA (foot_back hm (fun _ _ h => h) hlt hf)
/-- what a restart keeps -/
def keepF (ks : List Int) (j : Nat) : Int := ks.getD j 0
def restartS (S : DS) (ks : List Int) : DS := { keepAll S (keepF ks) S.n with off := false, left := -1 }
theorem restart_nil {w : World} {v : Value} : Ret Try.prog 9 [.pointer none, v] w fun v w' => w = w' := by
  refine Ret.enter Try.func9 rfl Try.ntmps9 rfl ?_
  simp only [argEnv, Nat.reduceAdd]
  refine E_seq ?_
  refine E_seqR ?_
  refine EL_val (R_move rfl) rfl rfl rfl ?_
  refine EL_val (R_eqlPtrNil rfl Try.underlying29) rfl rfl rfl ?_
  refine EL_nil ?_
  refine E_cond_t rfl ?_
  refine E_ret ?_
  refine thenQ_r ?_
  refine ret0 (.inr rfl) rfl ?_
  rfl
theorem restart_ok {w : World} {B d g : Nat} {C : Array Value} {ov : Nat → Value} {S : DS} (h : DiskAt w B d g C ov S) {A : Option Addr} {m c : Nat} {ks : List Int} (hk : IntsOff B w A m ks) :
    Ret Try.prog 9 [ptr d, .slice A m c] w fun v w' => Disk w' B d (restartS S ks) ∧ DM B w w' := by
  have hnle := h.nle
  have hml := hk.1.2.1
  have hkl := hk.1.1
  refine Ret.enter Try.func9 rfl Try.ntmps9 rfl ?_
  simp only [argEnv, Nat.reduceAdd]
  refine E_seq ?_
  refine E_seqR ?_
  refine EL_val (R_move rfl) rfl rfl rfl ?_
  refine EL_val (R_eqlPtrNil rfl Try.underlying29) rfl rfl rfl ?_
  refine EL_nil ?_
  refine E_cond_f rfl ?_
  refine E_skip ?_
  refine thenQ_n ?_
  refine E_seq ?_
  refine E_seqR ?_
  refine EL_val (R_move rfl) rfl rfl rfl ?_
  refine EL_val (R_nilCheck rfl) rfl rfl rfl ?_
  refine EL_val (R_fieldAddr rfl K.fT70_1) rfl rfl rfl ?_
  refine EL_val (R_load rfl K.ag68 (h.cRow)) rfl rfl rfl ?_
  refine EL_val (R_lenSlice rfl Try.underlying68) rfl rfl rfl ?_
  refine EL_val (R_move rfl) rfl rfl rfl ?_
  refine EL_nil ?_
  refine E_block ?_
  refine E_loop (fun m' e' w' => ∃ i C' ov', i ≤ S.n ∧ m' = S.n - i ∧ e' = [(0, ptr d), (1, .slice (A) m c), (12, .int .i64 (S.n : Int)), (13, .int .i64 ((i : Nat) : Int))] ∧ DiskAt w' B d g C' ov' (keepAll S (keepF ks) i) ∧ DM B w w') S.n [(0, ptr d), (1, .slice (A) m c), (12, .int .i64 (S.n : Int)), (13, .int .i64 ((0 : Nat) : Int))] ⟨rfl, rfl, rfl, rfl, trivial⟩
    ⟨0, C, ov, by omega, by omega, rfl, by rw [keepAll_zero]; exact h, DM.refl _ _⟩ ?_
  rintro m' e w' ⟨i, C', ov', hi, rfl, rfl, hD, hm⟩
  by_cases hlt : i < S.n
  · have hi1 : i < (keepAll S (keepF ks) i).n := hlt
    have hks := hk.dm hm
    by_cases hb : i < m
    · obtain ⟨g2, i2, rfl, hc⟩ := hks.1.2.2 (by omega)
      have hx : keepF ks i = ks[i]'(by omega) := by simp [keepF, List.getD_eq_getElem?_getD, List.getElem?_eq_getElem (show i < ks.length by omega)]
      have hcell := hc i (ks[i]'(by omega)) (List.getElem?_eq_getElem (by omega))
      rw [← hx] at hcell

      refine E_seqR ?_
      first | refine EL_val (R_lss_t rfl rfl (by omega)) rfl rfl rfl ?_ | refine EL_val (R_lss_f rfl rfl (by omega)) rfl rfl rfl ?_
      refine EL_nil ?_
      refine E_seq ?_
      refine E_cond_t rfl ?_
      refine E_skip ?_
      refine thenQ_n ?_
      refine E_seq ?_
      refine E_block ?_
      refine E_seqR ?_
      refine EL_val (R_move rfl) rfl rfl rfl ?_
      refine EL_val (R_assign rfl) rfl rfl rfl ?_
      refine EL_nil ?_
      refine E_seqR ?_
      refine EL_val (R_assign rfl) rfl rfl rfl ?_
      refine EL_nil ?_
      refine E_seq ?_
      refine E_seqR ?_
      refine EL_val (R_move rfl) rfl rfl rfl ?_
      refine EL_val (R_move rfl) rfl rfl rfl ?_
      refine EL_val (R_lenSlice rfl Try.underlying54) rfl rfl rfl ?_
      first | refine EL_val (R_lss_t rfl rfl (by omega)) rfl rfl rfl ?_ | refine EL_val (R_lss_f rfl rfl (by omega)) rfl rfl rfl ?_
      refine EL_nil ?_
      refine E_cond_t rfl ?_
      refine E_region ?_
      refine EL_val (R_move rfl) rfl rfl rfl ?_
      refine EL_val (R_move rfl) rfl rfl rfl ?_
      refine EL_val (R_indexAddr rfl rfl Try.underlying54 K.sz3 rfl (by omega)) rfl rfl rfl ?_
      refine EL_val (R_load rfl K.ag3 ((by rw [Nat.mul_one]; exact hcell))) rfl rfl rfl ?_
      refine EL_val (R_assign rfl) rfl rfl rfl ?_
      refine EL_nil ?_
      refine thenQ_n ?_
      refine E_region ?_
      refine EL_val (R_move rfl) rfl rfl rfl ?_
      refine EL_val (R_nilCheck rfl) rfl rfl rfl ?_
      refine EL_val (R_fieldAddr rfl K.fT70_1) rfl rfl rfl ?_
      refine EL_val (R_load rfl K.ag68 (hD.cRow)) rfl rfl rfl ?_
      refine EL_val (R_move rfl) rfl rfl rfl ?_
      refine EL_val (R_indexAddr rfl rfl Try.underlying68 K.sz74 rfl (by omega)) rfl rfl rfl ?_
      refine EL_val (R_move rfl) rfl rfl rfl ?_
      refine EL_step rfl ?_
      refine EO_call K.bd26 rfl rfl ((by rw [Nat.zero_add]; exact keep_ok hD hi1 _)) ?_
      rintro v w8 ⟨⟨C8, ov8, h8⟩, hm8⟩
      refine EL_nil ?_
      refine inB_n ?_
      refine thenQ_n ?_
      refine E_region ?_
      first | refine EL_val (R_inc rfl (by omega)) rfl rfl rfl ?_ | refine EL_val (R_add_in rfl rfl (by omega) (by omega)) rfl rfl rfl ?_
      refine EL_val (R_move rfl) rfl rfl rfl ?_
      refine EL_nil ?_
      refine thenQ_n ?_
      refine ⟨rfl, S.n - (i + 1), [(0, ptr d), (1, .slice (some ⟨g2, i2, none⟩) m c), (12, .int .i64 (S.n : Int)), (13, .int .i64 ((i + 1 : Nat) : Int))], by omega, ⟨rfl, rfl, rfl, rfl, trivial⟩, i + 1, C8, ov8, by omega, rfl, rfl, by rw [← keepAll_succ]; exact h8, hm.trans hm8⟩
    · have hx : keepF ks i = 0 := by simp [keepF, List.getD_eq_getElem?_getD, List.getElem?_eq_none (show ks.length ≤ i by omega)]

      refine E_seqR ?_
      first | refine EL_val (R_lss_t rfl rfl (by omega)) rfl rfl rfl ?_ | refine EL_val (R_lss_f rfl rfl (by omega)) rfl rfl rfl ?_
      refine EL_nil ?_
      refine E_seq ?_
      refine E_cond_t rfl ?_
      refine E_skip ?_
      refine thenQ_n ?_
      refine E_seq ?_
      refine E_block ?_
      refine E_seqR ?_
      refine EL_val (R_move rfl) rfl rfl rfl ?_
      refine EL_val (R_assign rfl) rfl rfl rfl ?_
      refine EL_nil ?_
      refine E_seqR ?_
      refine EL_val (R_assign rfl) rfl rfl rfl ?_
      refine EL_nil ?_
      refine E_seq ?_
      refine E_seqR ?_
      refine EL_val (R_move rfl) rfl rfl rfl ?_
      refine EL_val (R_move rfl) rfl rfl rfl ?_
      refine EL_val (R_lenSlice rfl Try.underlying54) rfl rfl rfl ?_
      first | refine EL_val (R_lss_t rfl rfl (by omega)) rfl rfl rfl ?_ | refine EL_val (R_lss_f rfl rfl (by omega)) rfl rfl rfl ?_
      refine EL_nil ?_
      refine E_cond_f rfl ?_
      refine E_skip ?_
      refine thenQ_n ?_
      refine E_region ?_
      refine EL_val (R_move rfl) rfl rfl rfl ?_
      refine EL_val (R_nilCheck rfl) rfl rfl rfl ?_
      refine EL_val (R_fieldAddr rfl K.fT70_1) rfl rfl rfl ?_
      refine EL_val (R_load rfl K.ag68 (hD.cRow)) rfl rfl rfl ?_
      refine EL_val (R_move rfl) rfl rfl rfl ?_
      refine EL_val (R_indexAddr rfl rfl Try.underlying68 K.sz74 rfl (by omega)) rfl rfl rfl ?_
      refine EL_val (R_move rfl) rfl rfl rfl ?_
      refine EL_step rfl ?_
      refine EO_call K.bd26 rfl rfl ((by rw [Nat.zero_add]; exact keep_ok hD hi1 _)) ?_
      rintro v w8 ⟨⟨C8, ov8, h8⟩, hm8⟩
      refine EL_nil ?_
      refine inB_n ?_
      refine thenQ_n ?_
      refine E_region ?_
      first | refine EL_val (R_inc rfl (by omega)) rfl rfl rfl ?_ | refine EL_val (R_add_in rfl rfl (by omega) (by omega)) rfl rfl rfl ?_
      refine EL_val (R_move rfl) rfl rfl rfl ?_
      refine EL_nil ?_
      refine thenQ_n ?_
      refine ⟨rfl, S.n - (i + 1), [(0, ptr d), (1, .slice (A) m c), (12, .int .i64 (S.n : Int)), (13, .int .i64 ((i + 1 : Nat) : Int))], by omega, ⟨rfl, rfl, rfl, rfl, trivial⟩, i + 1, C8, ov8, by omega, rfl, rfl, by rw [← keepAll_succ, hx]; exact h8, hm.trans hm8⟩
  · have hi' : i = S.n := by omega
    subst hi'

    refine E_seqR ?_
    first | refine EL_val (R_lss_t rfl rfl (by omega)) rfl rfl rfl ?_ | refine EL_val (R_lss_f rfl rfl (by omega)) rfl rfl rfl ?_
    refine EL_nil ?_
    refine E_seq ?_
    refine E_cond_f rfl ?_
    refine E_exit ?_
    refine thenQ_e ?_
    refine thenQ_e ?_
    refine inB_eq rfl ?_
    refine thenQ_n ?_
    refine E_region ?_
    refine EL_val (R_move rfl) rfl rfl rfl ?_
    refine EL_val (R_build (cells := #[.bool false, .int .i64 (-1)]) K.zr67 K.pl67 rfl rfl) rfl rfl rfl ?_
    refine EL_val (R_nilCheck rfl) rfl rfl rfl ?_
    refine EL_val (R_fieldAddr rfl K.fT70_0) rfl rfl rfl ?_
    refine EL_step rfl ?_
    refine EO_storeAggB hD.hd rfl rfl K.sz67 rfl rfl ?_
    intro w9 hu
    refine EL_nil ?_
    refine ret0 (.inl rfl) rfl ?_
    exact ⟨⟨g, C', ov', hD.setPower (by omega) (by omega) hu⟩, hm.trans (DM.upd hu hD.hd hD.Bd (.inl rfl))⟩
end Go.Proofs.Ytobhogdndfbniaa
