/- Parts of lists; how many blocks a map needs (packages tree, drydockref11). -/
import Derived.Test.YtifmdcjncbbcgaaTreeB
set_option linter.unusedVariables false
set_option linter.unusedSimpArgs false
set_option maxRecDepth 100000
namespace Go.Proofs.Ytifmdcjncbbcgaa
open Go.EW Go.RowKit

theorem IS.drop {w : World} {g i : Nat} {ks : List Int} (h : IS w (some ⟨g, i, none⟩) ks) (a : Nat) : IS w (some ⟨g, i + a * 1, none⟩) (ks.drop a) := by
  refine ⟨by simp [ival], fun h0 => ⟨g, i + a * 1, rfl, fun j v hj => ?_⟩⟩
  have h0' : 0 < ks.length := by simp at h0; omega
  obtain ⟨g', i', hA, hc⟩ := h.2 h0'
  injection hA with hA
  injection hA with h1 h2 _
  subst h1; subst h2
  have := hc (a + j) v (by simpa [ival] using hj)
  rwa [Nat.mul_one, Nat.add_assoc]
theorem IS.take {w : World} {A : Option Addr} {ks : List Int} (h : IS w A ks) (a : Nat) : IS w A (ks.take a) := by
  refine ⟨by simp [ival], fun h0 => ?_⟩
  have h0' : 0 < ks.length := by simp at h0; omega
  obtain ⟨g, i, hA, hc⟩ := h.2 h0'
  refine ⟨g, i, hA, fun j v hj => hc j v ?_⟩
  simp only [ival, List.map_take, List.getElem?_toArray, List.getElem?_take] at hj ⊢
  split at hj
  · exact hj
  · cases hj
/-- so many numbers from a place on; 0 behind the end -/
def partS (ks : List Int) (a n : Nat) : List Int := (List.range n).map fun i => ks.getD (a + i) 0
theorem partS_length (ks : List Int) (a n : Nat) : (partS ks a n).length = n := by simp [partS]
theorem partS_succ (ks : List Int) (a n : Nat) : partS ks a (n + 1) = partS ks a n ++ [ks.getD (a + n) 0] := by simp [partS, List.range_succ]
theorem partS_none {ks : List Int} {a n : Nat} (h : ks.length ≤ a) : (partS ks a n).any nzI = false := by
  rw [List.any_eq_false]
  intro x hx
  simp only [partS, List.mem_map, List.mem_range] at hx
  obtain ⟨i, _, rfl⟩ := hx
  rw [List.getD_eq_getElem?_getD, List.getElem?_eq_none (by omega)]
  simp [nzI]
theorem partS_eq (ks : List Int) (a n : Nat) : partS ks a n = (ks.drop a).take n ++ List.replicate (n - (ks.length - a)) 0 := by
  apply List.ext_getElem?
  intro i
  simp only [partS, List.getElem?_map, List.getElem?_append, List.length_take, List.length_drop, List.getElem?_take, List.getElem?_drop, List.getElem?_replicate]
  by_cases hi : i < n
  · rw [List.getElem?_range hi]
    by_cases h2 : a + i < ks.length
    · rw [if_pos (by omega), if_pos hi, List.getElem?_eq_getElem h2]
      simp [List.getD_eq_getElem?_getD, List.getElem?_eq_getElem h2]
    · rw [if_neg (by omega), if_pos (by omega)]
      simp [List.getD_eq_getElem?_getD, List.getElem?_eq_none (by omega : ks.length ≤ a + i)]
  · rw [List.getElem?_eq_none (by simp; omega), if_neg (by omega), if_neg (by omega)]
    rfl
theorem made_int (n : Nat) : (madeCells (Value.int .i64 0).cells (n * 1)).toList = ival (List.replicate n 0) := by
  show (madeCells #[Value.int .i64 0] (n * 1)).toList = _
  rw [madeCells_one]; simp [ival]
theorem OI.made {w w' : World} {base n : Nat} (h : New w w' (.cells (madeCells (Value.int .i64 0).cells (n * 1)) 3)) (hb : base ≤ w.heap.size) (hn : n ≤ 1048576) : OI base w' (.slice (some ⟨w.heap.size, 0, none⟩) n n) (List.replicate n 0) := by
  have := h.own (base := base) (m := n) (size := 1) (by rw [size_madeCells]) hb (by simp only [maxLen]; omega)
  unfold OI
  rw [List.length_replicate, ← made_int]
  exact this
theorem part_ok {w : World} {A : Option Addr} {ks : List Int} {c a n : Nat} (hk : IS w A ks) (hc : ks.length ≤ c) (hl : ks.length ≤ 1048576) (ha : a ≤ 1000) (hn : 0 < n) (hn2 : n ≤ 96) :
    Ret Try.prog 19 [.slice A ks.length c, .int .i64 (a : Int), .int .i64 (n : Int)] w fun v w' => (∃ u, v = .tuple #[u, .bool ((partS ks a n).any nzI)] ∧ OI w.heap.size w' u (partS ks a n)) ∧ Mods No w w' := by
  have hcf := fun {w : World} {u : Value} (h : OI w.heap.size w u (partS ks a n)) => h
  by_cases hlt : a < ks.length
  · obtain ⟨g, o, rfl, _⟩ := hk.cell hlt
    have key : ∀ w1 w3, New w w1 (.cells (madeCells (Value.int .i64 0).cells (n * 1)) 3) → Upd w1 w3 w.heap.size (splice (madeCells (Value.int .i64 0).cells (n * 1)) 0 ((ival (ks.drop a)).take (min (ks.length - a) n)).toArray) 3 →
        OI w.heap.size w3 (.slice (some ⟨w.heap.size, 0, none⟩) n n) (partS ks a n) ∧ Mods No w w3 := fun w1 w3 hn1 hu3 => by
      have ho := OI.made hn1 (Nat.le_refl _) (by omega)
      unfold OI at ho
      rw [List.length_replicate] at ho
      have h1 := own_splice ho hn1.bk hu3 (by simp [ival]; omega) hn
      refine ⟨?_, hn1.mods.trans' hu3.mods fun k hk e => by omega⟩
      unfold OI
      rw [partS_length]
      refine Eq.mp ?_ h1
      congr 1
      rw [partS_eq, ival_app]
      simp only [ival, List.take_zero, List.nil_append, List.map_take, List.map_drop, List.length_take, List.length_drop, List.length_map, Nat.zero_add, List.drop_replicate, List.map_replicate]
      congr 1
      · rw [show min (ks.length - a) n = min n (ks.length - a) from Nat.min_comm _ _, List.take_eq_take_iff]
        simp
      · congr 1
        omega
    refine Ret.enter Try.func19 rfl Try.ntmps19 rfl ?_
    simp only [argEnv, Nat.reduceAdd]
    refine E_seqR ?_
    refine EL_val (R_assign rfl) rfl rfl rfl ?_
    refine EL_val (R_assign rfl) rfl rfl rfl ?_
    refine EL_nil ?_
    refine E_seqR ?_
    refine EL_val (R_move rfl) rfl rfl rfl ?_
    refine EL_step rfl ?_
    refine EO_makeSlice n n rfl rfl Try.underlying22 K.zr3 K.sz3 K.by3 (by first | rfl | omega) (by first | rfl | omega) (by omega) (by omega) (by omega) rfl ?_
    intro w1 hn1
    refine EL_val (R_assign rfl) rfl rfl rfl ?_
    refine EL_nil ?_
    refine E_seq ?_
    refine E_seqR ?_
    refine EL_val (R_move rfl) rfl rfl rfl ?_
    refine EL_val (R_move rfl) rfl rfl rfl ?_
    refine EL_val (R_lenSlice rfl Try.underlying22) rfl rfl rfl ?_
    first | refine EL_val (R_lss_t rfl rfl (by omega)) rfl rfl rfl ?_ | refine EL_val (R_lss_f rfl rfl (by omega)) rfl rfl rfl ?_
    refine EL_nil ?_
    refine E_cond_t rfl ?_
    refine E_region ?_
    refine EL_val (R_move rfl) rfl rfl rfl ?_
    refine EL_val (R_move rfl) rfl rfl rfl ?_
    refine EL_val (R_move rfl) rfl rfl rfl ?_
    refine EL_val (R_sliceL (a) (by omega) (by omega) (by omega) rfl rfl Try.underlying22 K.sz3) rfl rfl rfl ?_
    refine EL_step rfl ?_
    refine EO_copy hn1.bk (by have := (hk.no hn1.mods).drop a; unfold IS at this; rw [List.length_drop] at this; exact this) ival_one (by rw [size_madeCells]; omega) rfl rfl Try.underlying22 K.sz3 rfl ?_
    intro w3 hu3
    (obtain ⟨h1, h2⟩ := key w1 w3 hn1 hu3)
    refine EL_nil ?_
    refine thenQ_n ?_
    refine E_seqR ?_
    refine EL_val (R_move rfl) rfl rfl rfl ?_
    refine EL_val (R_move rfl) rfl rfl rfl ?_
    refine EL_step rfl ?_
    refine EO_call K.bd36 rfl rfl ((by have := containsfunc_ok (c := n) (OI.is h1) (by rw [partS_length]; omega) K.bd37 (fun k => nz_ok); rw [partS_length] at this; exact this)) ?_
    rintro _ _ ⟨rfl, rfl⟩
    refine EL_val (R_assign rfl) rfl rfl rfl ?_
    refine EL_val (R_assign rfl) rfl rfl rfl ?_
    refine EL_nil ?_
    refine E_ret ?_
    refine ret2 (.inr rfl) rfl rfl rfl ?_
    exact ⟨⟨_, rfl, h1⟩, h2⟩
  · have hp : partS ks a n = List.replicate n 0 := by
      rw [partS_eq, List.drop_eq_nil_of_le (by omega)]
      simp
      omega
    refine Ret.enter Try.func19 rfl Try.ntmps19 rfl ?_
    simp only [argEnv, Nat.reduceAdd]
    refine E_seqR ?_
    refine EL_val (R_assign rfl) rfl rfl rfl ?_
    refine EL_val (R_assign rfl) rfl rfl rfl ?_
    refine EL_nil ?_
    refine E_seqR ?_
    refine EL_val (R_move rfl) rfl rfl rfl ?_
    refine EL_step rfl ?_
    refine EO_makeSlice n n rfl rfl Try.underlying22 K.zr3 K.sz3 K.by3 (by first | rfl | omega) (by first | rfl | omega) (by omega) (by omega) (by omega) rfl ?_
    intro w1 hn1
    refine EL_val (R_assign rfl) rfl rfl rfl ?_
    refine EL_nil ?_
    refine E_seq ?_
    refine E_seqR ?_
    refine EL_val (R_move rfl) rfl rfl rfl ?_
    refine EL_val (R_move rfl) rfl rfl rfl ?_
    refine EL_val (R_lenSlice rfl Try.underlying22) rfl rfl rfl ?_
    first | refine EL_val (R_lss_t rfl rfl (by omega)) rfl rfl rfl ?_ | refine EL_val (R_lss_f rfl rfl (by omega)) rfl rfl rfl ?_
    refine EL_nil ?_
    refine E_cond_f rfl ?_
    refine E_skip ?_
    refine thenQ_n ?_
    refine E_seqR ?_
    refine EL_val (R_move rfl) rfl rfl rfl ?_
    refine EL_val (R_move rfl) rfl rfl rfl ?_
    refine EL_step rfl ?_
    refine EO_call K.bd36 rfl rfl ((by have := containsfunc_ok (c := n) (OI.is (OI.made hn1 (Nat.le_refl _) (by omega))) (by simp; omega) K.bd37 (fun k => nz_ok); rw [List.length_replicate] at this; exact this)) ?_
    rintro _ _ ⟨rfl, rfl⟩
    refine EL_val (R_assign rfl) rfl rfl rfl ?_
    refine EL_val (R_assign rfl) rfl rfl rfl ?_
    refine EL_nil ?_
    refine E_ret ?_
    refine ret2 (.inr rfl) rfl rfl rfl ?_
    rw [hp]
    exact ⟨⟨_, rfl, OI.made hn1 (Nat.le_refl _) (by omega)⟩, hn1.mods⟩
theorem rat_ok {w : World} {A : Option Addr} {ks : List Int} {c i : Nat} (hk : IS w A ks) (hl : ks.length ≤ 1048576) (hi : i ≤ 1048576) :
    Ret Try.prog 28 [.slice A ks.length c, .int .i64 (i : Int)] w fun v w' => v = .int .i64 (ks.getD i 0) ∧ w = w' := by
  by_cases hlt : i < ks.length
  · obtain ⟨g, o, rfl, hcell⟩ := hk.cell hlt
    refine Ret.enter Try.func28 rfl Try.ntmps28 rfl ?_
    simp only [argEnv, Nat.reduceAdd]
    refine E_seqR ?_
    refine EL_val (R_assign rfl) rfl rfl rfl ?_
    refine EL_nil ?_
    refine E_seq ?_
    refine E_seqR ?_
    refine EL_val (R_move rfl) rfl rfl rfl ?_
    refine EL_val (R_move rfl) rfl rfl rfl ?_
    refine EL_val (R_lenSlice rfl Try.underlying22) rfl rfl rfl ?_
    first | refine EL_val (R_lss_t rfl rfl (by omega)) rfl rfl rfl ?_ | refine EL_val (R_lss_f rfl rfl (by omega)) rfl rfl rfl ?_
    refine EL_nil ?_
    refine E_cond_t rfl ?_
    refine E_seqR ?_
    refine EL_val (R_move rfl) rfl rfl rfl ?_
    refine EL_val (R_move rfl) rfl rfl rfl ?_
    refine EL_val (R_indexAddr rfl rfl Try.underlying22 K.sz3 (m := i) rfl hlt) rfl rfl rfl ?_
    refine EL_val (R_load rfl K.ag3 ((by rw [Nat.mul_one]; exact hcell))) rfl rfl rfl ?_
    refine EL_val (R_assign rfl) rfl rfl rfl ?_
    refine EL_nil ?_
    refine E_ret ?_
    refine thenQ_r ?_
    refine ret1 (.inr rfl) rfl rfl ?_
    exact ⟨by rw [List.getD_eq_getElem?_getD, List.getElem?_eq_getElem hlt]; rfl, rfl⟩
  · refine Ret.enter Try.func28 rfl Try.ntmps28 rfl ?_
    simp only [argEnv, Nat.reduceAdd]
    refine E_seqR ?_
    refine EL_val (R_assign rfl) rfl rfl rfl ?_
    refine EL_nil ?_
    refine E_seq ?_
    refine E_seqR ?_
    refine EL_val (R_move rfl) rfl rfl rfl ?_
    refine EL_val (R_move rfl) rfl rfl rfl ?_
    refine EL_val (R_lenSlice rfl Try.underlying22) rfl rfl rfl ?_
    first | refine EL_val (R_lss_t rfl rfl (by omega)) rfl rfl rfl ?_ | refine EL_val (R_lss_f rfl rfl (by omega)) rfl rfl rfl ?_
    refine EL_nil ?_
    refine E_cond_f rfl ?_
    refine E_skip ?_
    refine thenQ_n ?_
    refine E_seqR ?_
    refine EL_val (R_assign rfl) rfl rfl rfl ?_
    refine EL_nil ?_
    refine E_ret ?_
    refine ret1 (.inr rfl) rfl rfl ?_
    exact ⟨by rw [List.getD_eq_getElem?_getD, List.getElem?_eq_none (by omega)]; rfl, rfl⟩
theorem rpart_ok {w : World} {A : Option Addr} {ks : List Int} {c a n : Nat} (hk : IS w A ks) (hl : ks.length ≤ 1048576) (ha : a ≤ 1000) (hn2 : n ≤ 96) :
    Ret Try.prog 21 [.slice A ks.length c, .int .i64 (a : Int), .int .i64 (n : Int)] w fun v w' => (∃ u, v = .tuple #[u, .bool ((partS ks a n).any nzI)] ∧ OI w.heap.size w' u (partS ks a n)) ∧ Mods No w w' := by
  refine Ret.enter Try.func21 rfl Try.ntmps21 rfl ?_
  simp only [argEnv, Nat.reduceAdd]
  refine E_seqR ?_
  refine EL_val (R_assign rfl) rfl rfl rfl ?_
  refine EL_val (R_assign rfl) rfl rfl rfl ?_
  refine EL_nil ?_
  refine E_seqR ?_
  refine EL_step rfl ?_
  refine EO_buildSlice0 Try.underlying22 K.sz3 rfl ?_
  intro w1 hn1
  refine EL_val (R_assign rfl) rfl rfl rfl ?_
  refine EL_nil ?_
  refine E_seqR ?_
  refine EL_val (R_assign rfl) rfl rfl rfl ?_
  refine EL_nil ?_
  refine E_seq ?_
  refine E_seqR ?_
  refine EL_val (R_move rfl) rfl rfl rfl ?_
  refine EL_val (R_assign rfl) rfl rfl rfl ?_
  refine EL_nil ?_
  refine E_block ?_
  refine E_loop (fun m' e' w' => ∃ i u, i ≤ n ∧ m' = n - i ∧ e' = [(0, .slice A ks.length c), (1, .int .i64 (a : Int)), (2, .int .i64 (n : Int)), (8, u), (9, .bool ((partS ks a (i)).any nzI)), (10, .int .i64 ((a + (i) : Nat) : Int))] ∧ OI w.heap.size w' u (partS ks a i) ∧ Mods No w w') n [(0, .slice A ks.length c), (1, .int .i64 (a : Int)), (2, .int .i64 (n : Int)), (8, .slice (some ⟨w.heap.size, 0, none⟩) 0 0), (9, .bool ((partS ks a (0)).any nzI)), (10, .int .i64 ((a + (0) : Nat) : Int))] ⟨rfl, rfl, rfl, rfl, rfl, rfl, trivial⟩
    ⟨0, _, by omega, by omega, rfl, hn1.own0 (m := 0) rfl (Nat.le_refl _) (by simp only [maxLen]; omega), hn1.mods⟩ ?_
  rintro m' e w2 ⟨i, u, hi, rfl, rfl, ho, hm⟩
  by_cases hlt : i < n
  · have hat := fun {w' : World} (h : Mods No w w') => rat_ok (c := c) (i := a + i) (hk.no h) hl (by omega)
    have hp := partS_succ ks a i
    have hsz := hm.size
    have hpl := partS_length ks a i
    unfold OI at ho
    rw [hpl] at ho
    cases hb : (partS ks a i).any nzI with
    | true =>
      have hnext : (partS ks a (i + 1)).any nzI = true := by rw [hp]; simp [hb]
      refine E_seq ?_
      refine E_seqR ?_
      refine EL_val (R_move rfl) rfl rfl rfl ?_
      refine EL_val (R_move rfl) rfl rfl rfl ?_
      refine EL_val (R_move rfl) rfl rfl rfl ?_
      refine EL_val (R_addE (((a + n : Nat) : Int)) rfl rfl (by omega) (by omega) (by omega)) rfl rfl rfl ?_
      first | refine EL_val (R_lss_t rfl rfl (by omega)) rfl rfl rfl ?_ | refine EL_val (R_lss_f rfl rfl (by omega)) rfl rfl rfl ?_
      refine EL_nil ?_
      refine E_cond_t rfl ?_
      refine E_skip ?_
      refine thenQ_n ?_
      refine E_seq ?_
      refine E_block ?_
      refine E_seqR ?_
      refine EL_val (R_move rfl) rfl rfl rfl ?_
      refine EL_val (R_move rfl) rfl rfl rfl ?_
      refine EL_val (R_move rfl) rfl rfl rfl ?_
      refine EL_step rfl ?_
      refine EO_call K.bd28 rfl rfl (hat hm) ?_
      rintro _ _ ⟨rfl, rfl⟩
      refine EL_step rfl ?_
      refine EO_buildSlice Try.underlying22 K.zr3 K.sz3 rfl rfl rfl (fill_whole rfl (by rw [size_madeCells])) rfl ?_
      intro w3 hn3
      refine EL_step rfl ?_
      refine EO_append rfl rfl Try.underlying22 K.sz3 K.zr3 K.by3 rfl (by decide) (hn3.mods.own ho fun _ _ h => h) (Src.bk hn3.bk 1 1 [.int .i64 (ks.getD (a + i) 0)] rfl (fun q u hq => by rw [Nat.zero_add]; show (#[.int .i64 (ks.getD (a + i) 0)] : Array Value)[q]? = some u; simpa using hq)) (by simp [Value.oneCell']) (by simp only [maxLen]; omega) (by omega) (by have := hn3.size; omega) rfl ?_
      intro v4 w4 ho4 hm4 hat4
      refine EL_val (R_assign rfl) rfl rfl rfl ?_
      refine EL_nil ?_
      refine E_region ?_
      refine EL_val (R_move rfl) rfl rfl rfl ?_
      refine EL_val (R_move rfl) rfl rfl rfl ?_
      refine EL_not rfl rfl rfl ?_
      refine EL_not rfl rfl rfl ?_
      refine EL_not rfl rfl rfl ?_
      refine EL_not rfl rfl rfl ?_
      first | refine EL_val (R_pick_t rfl rfl) rfl rfl rfl ?_ | refine EL_val (R_pick_f rfl rfl) rfl rfl rfl ?_
      refine EL_val (R_assign rfl) rfl rfl rfl ?_
      refine EL_nil ?_
      refine inB_n ?_
      refine thenQ_n ?_
      refine E_region ?_
      refine EL_val (R_move rfl) rfl rfl rfl ?_
      refine EL_val (R_addE (((a + (i + 1) : Nat) : Int)) rfl rfl (by omega) (by omega) (by omega)) rfl rfl rfl ?_
      refine EL_val (R_assign rfl) rfl rfl rfl ?_
      refine EL_nil ?_
      refine thenQ_n ?_
      have hm04 := own_newer (hn3.mods.own ho fun _ _ h => h) (hm.trans hn3.mods) hm4
      refine ⟨rfl, n - (i + 1), [(0, .slice A ks.length c), (1, .int .i64 (a : Int)), (2, .int .i64 (n : Int)), (8, v4), (9, .bool ((partS ks a (i + 1)).any nzI)), (10, .int .i64 ((a + (i + 1) : Nat) : Int))], by omega, ⟨rfl, rfl, rfl, rfl, by rw [hnext]; rfl, rfl, trivial⟩, i + 1, v4, by omega, rfl, rfl, by unfold OI; rw [partS_length, hp, ival_app]; exact ho4, hm04⟩
    | false =>
      have hnext : (partS ks a (i + 1)).any nzI = nzI (ks.getD (a + i) 0) := by rw [hp]; simp [hb]
      refine E_seq ?_
      refine E_seqR ?_
      refine EL_val (R_move rfl) rfl rfl rfl ?_
      refine EL_val (R_move rfl) rfl rfl rfl ?_
      refine EL_val (R_move rfl) rfl rfl rfl ?_
      refine EL_val (R_addE (((a + n : Nat) : Int)) rfl rfl (by omega) (by omega) (by omega)) rfl rfl rfl ?_
      first | refine EL_val (R_lss_t rfl rfl (by omega)) rfl rfl rfl ?_ | refine EL_val (R_lss_f rfl rfl (by omega)) rfl rfl rfl ?_
      refine EL_nil ?_
      refine E_cond_t rfl ?_
      refine E_skip ?_
      refine thenQ_n ?_
      refine E_seq ?_
      refine E_block ?_
      refine E_seqR ?_
      refine EL_val (R_move rfl) rfl rfl rfl ?_
      refine EL_val (R_move rfl) rfl rfl rfl ?_
      refine EL_val (R_move rfl) rfl rfl rfl ?_
      refine EL_step rfl ?_
      refine EO_call K.bd28 rfl rfl (hat hm) ?_
      rintro _ _ ⟨rfl, rfl⟩
      refine EL_step rfl ?_
      refine EO_buildSlice Try.underlying22 K.zr3 K.sz3 rfl rfl rfl (fill_whole rfl (by rw [size_madeCells])) rfl ?_
      intro w3 hn3
      refine EL_step rfl ?_
      refine EO_append rfl rfl Try.underlying22 K.sz3 K.zr3 K.by3 rfl (by decide) (hn3.mods.own ho fun _ _ h => h) (Src.bk hn3.bk 1 1 [.int .i64 (ks.getD (a + i) 0)] rfl (fun q u hq => by rw [Nat.zero_add]; show (#[.int .i64 (ks.getD (a + i) 0)] : Array Value)[q]? = some u; simpa using hq)) (by simp [Value.oneCell']) (by simp only [maxLen]; omega) (by omega) (by have := hn3.size; omega) rfl ?_
      intro v4 w4 ho4 hm4 hat4
      (have hm04 := own_newer (hn3.mods.own ho fun _ _ h => h) (hm.trans hn3.mods) hm4)
      refine EL_val (R_assign rfl) rfl rfl rfl ?_
      refine EL_nil ?_
      refine E_region ?_
      refine EL_val (R_move rfl) rfl rfl rfl ?_
      refine EL_val (R_move rfl) rfl rfl rfl ?_
      first | refine EL_val (R_move rfl) rfl rfl rfl ?_ | refine EL_not rfl rfl rfl ?_
      first | refine EL_val (R_move rfl) rfl rfl rfl ?_ | refine EL_not rfl rfl rfl ?_
      refine EL_step rfl ?_
      refine EO_call K.bd28 rfl rfl (hat hm04) ?_
      rintro _ _ ⟨rfl, rfl⟩
      first | refine EL_val (R_neq rfl rfl) rfl rfl rfl ?_ | refine EL_not rfl rfl rfl ?_
      first | refine EL_val (R_pick_t rfl rfl) rfl rfl rfl ?_ | refine EL_val (R_pick_f rfl rfl) rfl rfl rfl ?_
      refine EL_val (R_assign rfl) rfl rfl rfl ?_
      refine EL_nil ?_
      refine inB_n ?_
      refine thenQ_n ?_
      refine E_region ?_
      refine EL_val (R_move rfl) rfl rfl rfl ?_
      refine EL_val (R_addE (((a + (i + 1) : Nat) : Int)) rfl rfl (by omega) (by omega) (by omega)) rfl rfl rfl ?_
      refine EL_val (R_assign rfl) rfl rfl rfl ?_
      refine EL_nil ?_
      refine thenQ_n ?_
      refine ⟨rfl, n - (i + 1), [(0, .slice A ks.length c), (1, .int .i64 (a : Int)), (2, .int .i64 (n : Int)), (8, v4), (9, .bool ((partS ks a (i + 1)).any nzI)), (10, .int .i64 ((a + (i + 1) : Nat) : Int))], by omega, ⟨rfl, rfl, rfl, rfl, by rw [hnext]; rfl, rfl, trivial⟩, i + 1, v4, by omega, rfl, rfl, by unfold OI; rw [partS_length, hp, ival_app]; exact ho4, hm04⟩
  · have hi' : i = n := by omega
    subst hi'
    refine E_seq ?_
    refine E_seqR ?_
    refine EL_val (R_move rfl) rfl rfl rfl ?_
    refine EL_val (R_move rfl) rfl rfl rfl ?_
    refine EL_val (R_move rfl) rfl rfl rfl ?_
    refine EL_val (R_addE (((a + i : Nat) : Int)) rfl rfl (by omega) (by omega) (by omega)) rfl rfl rfl ?_
    first | refine EL_val (R_lss_t rfl rfl (by omega)) rfl rfl rfl ?_ | refine EL_val (R_lss_f rfl rfl (by omega)) rfl rfl rfl ?_
    refine EL_nil ?_
    refine E_cond_f rfl ?_
    refine E_exit ?_
    refine thenQ_e ?_
    refine thenQ_e ?_
    refine inB_eq rfl ?_
    refine thenQ_n ?_
    refine E_seqR ?_
    refine EL_val (R_move rfl) rfl rfl rfl ?_
    refine EL_val (R_move rfl) rfl rfl rfl ?_
    refine EL_val (R_assign rfl) rfl rfl rfl ?_
    refine EL_val (R_assign rfl) rfl rfl rfl ?_
    refine EL_nil ?_
    refine E_ret ?_
    refine ret2 (.inr rfl) rfl rfl rfl ?_
    exact ⟨⟨_, rfl, ho⟩, hm⟩
end Go.Proofs.Ytifmdcjncbbcgaa
