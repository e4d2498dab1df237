/- 'drydocklaw07.DiskFails' returns true for every input; the arguments read as they did. -/
import Derived.Test.YtphnhhcefoghpaaLaws
import Derived.Test.YtphnhhcefoghpaaRows
import Derived.ChangeOld
import Derived.OpenShut
set_option linter.unusedVariables false
set_option linter.unusedSimpArgs false
set_option maxRecDepth 100000
namespace Go.Proofs.Ytphnhhcefoghpaa
open Go.EW Go.RowKit Go.ChangeShapes Go.WideShapes Go.ChangeAt

/-- a disk that lasts for so many: what a barrier does -/
theorem barrier_left {S : DS} (ho : S.off = false) (h0 : 0 ≤ S.left) :
    (S.left = 0 → (barrierS S).2 = 8 ∧ (barrierS S).1.off = true ∧ (barrierS S).1.n = S.n) ∧
    (0 < S.left → (barrierS S).2 = 0 ∧ (barrierS S).1.off = false ∧ (barrierS S).1.n = S.n ∧ (barrierS S).1.left = S.left - 1 ∧ ∀ j, ((barrierS S).1.opn j).length ≤ (S.opn j).length) := by
  refine ⟨fun h => ?_, fun h => ?_⟩
  · have hs : spendS S = ({ S with off := true }, 8) := by simp [spendS, h]
    simp [barrierS, ho, hs]
  · have hs : spendS S = ({ S with left := S.left - 1 }, 0) := by simp [spendS, h, show ¬ S.left = 0 by omega]
    have hb : barrierS S = (allS { S with left := S.left - 1 }, 0) := by simp [barrierS, ho, hs]
    rw [hb]
    refine ⟨rfl, ho, rfl, rfl, fun j => ?_⟩
    simp only [allS, keepAll]
    split
    · simp
    · exact Nat.le_refl _
theorem putL_left : ∀ (L : List (Int × List UInt8)) (S : DS), S.off = false → 0 ≤ S.left →
    ((L.length : Int) ≤ S.left → (putL S L).2 = 0 ∧ (putL S L).1.off = false ∧ (putL S L).1.n = S.n ∧ (putL S L).1.left = S.left - L.length ∧ ∀ j, ((putL S L).1.opn j).length ≤ (S.opn j).length + L.length) ∧
    (S.left < (L.length : Int) → (putL S L).2 = 8 ∧ (putL S L).1.off = true ∧ (putL S L).1.n = S.n)
  | [], S, ho, h0 => by
    refine ⟨fun _ => ⟨rfl, ho, rfl, by simp [putL], fun j => by simp [putL]⟩, fun h => by simp at h; omega⟩
  | (a, b) :: r, S, ho, h0 => by
    by_cases hz : S.left = 0
    · have hs : spendS S = ({ S with off := true }, 8) := by simp [spendS, hz]
      have hp : putL S ((a, b) :: r) = ({ S with off := true }, 8) := by simp [putL, hs]
      rw [hp]
      exact ⟨fun h => by simp at h; omega, fun _ => ⟨rfl, rfl, rfl⟩⟩
    · have hs : spendS S = ({ S with left := S.left - 1 }, 0) := by simp [spendS, hz, show 0 < S.left by omega]
      have hp : putL S ((a, b) :: r) = putL { S with left := S.left - 1, opn := fup S.opn a.toNat (S.opn a.toNat ++ [b]) } r := by simp [putL, hs]
      rw [hp]
      obtain ⟨h1, h2⟩ := putL_left r { S with left := S.left - 1, opn := fup S.opn a.toNat (S.opn a.toNat ++ [b]) } ho (by simp; omega)
      refine ⟨fun h => ?_, fun h => ?_⟩
      · obtain ⟨g1, g2, g3, g4, g5⟩ := h1 (by simp at h ⊢; omega)
        refine ⟨g1, g2, g3, by rw [g4]; simp; omega, fun j => ?_⟩
        have := g5 j
        simp only at this
        by_cases hj : j = a.toNat
        · subst hj
          rw [fup_at, List.length_append] at this
          simp at this ⊢
          omega
        · rw [fup_ne _ _ hj] at this
          simp at this ⊢
          omega
      · exact h2 (by simp at h ⊢; omega)
/-- k writes of zeros to the blocks 0, 1, .. -/
def zeroW (k : Nat) : List (Int × List UInt8) := (List.range k).map fun (j : Nat) => ((j : Int), zeros64)
theorem zeroW_succ (k : Nat) : zeroW (k + 1) = zeroW k ++ [((k : Int), zeros64)] := by simp [zeroW, List.range_succ]
theorem zeroW_length (k : Nat) : (zeroW k).length = k := by simp [zeroW]
theorem putS_zeroW {S : DS} (ho : S.off = false) {k : Nat} (hk : k ≤ S.n) : putS S (zeroW k) = putL S (zeroW k) := by
  have h1 : badLen (zeroW k) = false := by
    refine List.any_eq_false.2 fun p hp => ?_
    simp only [zeroW, List.mem_map] at hp
    obtain ⟨j, _, rfl⟩ := hp
    simp [zeros64]
  have h2 : badAt S.n (zeroW k) = false := by
    refine List.any_eq_false.2 fun p hp => ?_
    simp only [zeroW, List.mem_map, List.mem_range] at hp
    obtain ⟨j, hj, rfl⟩ := hp
    simp
    omega
  simp [putS, ho, h1, h2]
theorem fails_walk {w : World} (n : Nat) (hn : n ≤ 255) {A : Option Addr} {l : List UInt8} {c : Nat} (hl : BytesAt w.heap.size w A l) :
    Ret Try.prog 6 [.int .u8 (n : Int), .slice A l.length c] w fun r w' => r = .bool true ∧ Below w.heap.size w w' := by
  have hll := hl.1
  refine Ret.enter Try.func6 rfl Try.ntmps6 rfl ?_
  simp only [argEnv, Nat.reduceAdd]
  refine E_seqR ?_
  refine EL_val (R_assign rfl) rfl rfl rfl ?_
  refine EL_nil ?_
  refine E_seqR ?_
  refine EL_step rfl ?_
  refine EO_call K.bd8 rfl rfl ((new_ok (n := 4) (B := w.heap.size) (by omega) (by omega) (Nat.le_refl _))) ?_
  rintro _ w1 ⟨d, rfl, ⟨g, C, ov, h1⟩, hm1⟩
  refine EL_val (R_move rfl) rfl rfl rfl ?_
  refine EL_val (R_extract rfl rfl) rfl rfl rfl ?_
  refine EL_val (R_extract rfl rfl) rfl rfl rfl ?_
  refine EL_val (R_assign rfl) rfl rfl rfl ?_
  refine EL_val (R_assign rfl) rfl rfl rfl ?_
  refine EL_nil ?_
  refine E_seq ?_
  refine E_seqR ?_
  refine EL_step rfl ?_
  refine EO_call K.bd9 rfl rfl (awake_ok) ?_
  rintro _ w2 ⟨rfl, hm2⟩
  refine EL_val (R_not rfl) rfl rfl rfl ?_
  refine EL_val (R_move rfl) rfl rfl rfl ?_
  first | refine EL_val (R_move rfl) rfl rfl rfl ?_ | refine EL_not rfl rfl rfl ?_
  first | refine EL_val (R_neq_t rfl rfl (by omega)) rfl rfl rfl ?_ | refine EL_val (R_neq_f rfl rfl (by omega)) rfl rfl rfl ?_ | refine EL_not rfl rfl rfl ?_
  first | refine EL_val (R_pick_t rfl rfl) rfl rfl rfl ?_ | refine EL_val (R_pick_f rfl rfl) rfl rfl rfl ?_
  refine EL_val (R_move rfl) rfl rfl rfl ?_
  first | refine EL_val (R_move rfl) rfl rfl rfl ?_ | refine EL_not rfl rfl rfl ?_
  first | refine EL_val (R_eqlPtrNil rfl Try.underlying25) rfl rfl rfl ?_ | refine EL_not rfl rfl rfl ?_
  first | refine EL_val (R_pick_t rfl rfl) rfl rfl rfl ?_ | refine EL_val (R_pick_f rfl rfl) rfl rfl rfl ?_
  refine EL_nil ?_
  refine E_cond_f rfl ?_
  refine E_skip ?_
  refine thenQ_n ?_
  refine E_seqR ?_
  refine EL_val (R_move rfl) rfl rfl rfl ?_
  refine EL_val (R_move rfl) rfl rfl rfl ?_
  refine EL_val (R_convInt (n : Int) (wrap_i64_in (by omega) (by omega)) rfl Try.underlying5 Try.underlying3) rfl rfl rfl ?_
  refine EL_step rfl ?_
  refine EO_call K.bd19 rfl rfl (fail_ok (h1.no hm2) (by omega)) ?_
  rintro _ w3 ⟨h3, hm3⟩
  refine EL_nil ?_
  refine E_seqR ?_
  refine EL_val (R_move rfl) rfl rfl rfl ?_
  refine EL_val (R_convInt (n : Int) (wrap_i64_in (by omega) (by omega)) rfl Try.underlying5 Try.underlying3) rfl rfl rfl ?_
  refine EL_val (R_assign rfl) rfl rfl rfl ?_
  refine EL_nil ?_
  refine E_seq ?_
  refine E_seqR ?_
  refine EL_val (R_assign rfl) rfl rfl rfl ?_
  refine EL_nil ?_
  refine E_block ?_
  have bl3 : Below w.heap.size w w3 := bl_dm (bl_no (bl_no (Below.refl _ _) (Nat.le_refl _) hm1) (Nat.le_refl _) hm2) (Nat.le_refl _) hm3
  refine E_loop (fun m' e' w' => ∃ (i left : Nat) (S : DS), i ≤ 100 ∧ m' = 100 - i ∧ e' = [(1, .slice A l.length c), (5, ptr d), (7, .int .i64 ((left : Nat) : Int)), (8, .int .i64 ((i : Nat) : Int))] ∧ left ≤ 255 ∧ Disk w' w.heap.size d S ∧ S.off = false ∧ S.n = 4 ∧ S.left = left ∧ (∀ j, (S.opn j).length ≤ 3 * i) ∧ Below w.heap.size w w') 100 [(1, .slice A l.length c), (5, ptr d), (7, .int .i64 ((n : Nat) : Int)), (8, .int .i64 ((0 : Nat) : Int))] ⟨rfl, rfl, rfl, rfl, trivial⟩
    ⟨0, n, _, by omega, by omega, rfl, hn, ⟨g, C, ov, h3⟩, rfl, rfl, by show (if (n : Int) < -1 then (-1 : Int) else n) = n; rw [if_neg (by omega)], fun j => by simp [newS], bl3⟩ ?_
  clear bl3 h3 h1
  rintro m' e w' ⟨i, left, S, hi, rfl, rfl, hleft, hD, ho, hSn, hSl, hop, bl⟩
  by_cases hend : i < l.length ∧ i < 100
  · obtain ⟨hi1, hi2⟩ := hend
    obtain ⟨ga, ia, rfl, hga, hca⟩ := (hl.below bl).2 (by omega)
    have hcell : w'.cell? ⟨ga, ia + i, none⟩ = some (.int .u8 (l[i].toNat : Int)) := hca i _ (by simp [bv, List.getElem?_eq_getElem hi1])
    obtain ⟨k0, hk0⟩ : ∃ k0 : Nat, k0 = l[i].toNat % 4 := ⟨_, rfl⟩
    have hk3 : k0 < 4 := by omega
    have hBw : w.heap.size ≤ w'.heap.size := bl.size
    refine E_seq ?_
    refine E_seqR ?_
    refine EL_val (R_move rfl) rfl rfl rfl ?_
    refine EL_val (R_move rfl) rfl rfl rfl ?_
    refine EL_val (R_lenSlice rfl Try.underlying23) rfl rfl rfl ?_
    first | refine EL_val (R_lss_t rfl rfl (by omega)) rfl rfl rfl ?_ | refine EL_val (R_lss_f rfl rfl (by omega)) rfl rfl rfl ?_
    refine EL_val (R_move rfl) rfl rfl rfl ?_
    first | refine EL_val (R_move rfl) rfl rfl rfl ?_ | refine EL_not rfl rfl rfl ?_
    first | refine EL_val (R_lss_t rfl rfl (by omega)) rfl rfl rfl ?_ | refine EL_val (R_lss_f rfl rfl (by omega)) rfl rfl rfl ?_ | refine EL_not rfl rfl rfl ?_
    first | refine EL_val (R_pick_t rfl rfl) rfl rfl rfl ?_ | refine EL_val (R_pick_f rfl rfl) rfl rfl rfl ?_
    refine EL_nil ?_
    refine E_cond_t rfl ?_
    refine E_skip ?_
    refine thenQ_n ?_
    refine E_seq ?_
    refine E_block ?_
    refine E_seqR ?_
    refine EL_val (R_move rfl) rfl rfl rfl ?_
    refine EL_val (R_move rfl) rfl rfl rfl ?_
    refine EL_val (R_indexAddr rfl rfl Try.underlying23 K.sz5 rfl (by omega)) rfl rfl rfl ?_
    refine EL_val (R_load rfl K.ag5 ((by rw [Nat.mul_one]; exact hcell))) rfl rfl rfl ?_
    refine EL_val (R_remE (k0 : Int) (by omega) (by omega) (by omega) rfl rfl) rfl rfl rfl ?_
    refine EL_val (R_convInt (k0 : Int) (wrap_i64_in (by omega) (by omega)) rfl Try.underlying5 Try.underlying3) rfl rfl rfl ?_
    refine EL_val (R_assign rfl) rfl rfl rfl ?_
    refine EL_nil ?_
    refine E_seqR ?_
    refine EL_val (R_assign rfl) rfl rfl rfl ?_
    refine EL_nil ?_
    refine E_seq ?_
    refine E_seqR ?_
    refine EL_val (R_move rfl) rfl rfl rfl ?_
    refine EL_val (R_eql rfl rfl) rfl rfl rfl ?_
    refine EL_nil ?_
    refine E_cut (fun e0 w'' => ∃ (k : Nat) (f : Int) (S' : DS), e0 = [(1, .slice (some ⟨ga, ia, none⟩) l.length c), (5, ptr d), (7, .int .i64 ((left : Nat) : Int)), (8, .int .i64 ((i : Nat) : Int)), (9, .int .i64 ((k : Nat) : Int)), (10, .int .i64 (f))] ∧ Disk w'' w.heap.size d S' ∧ Below w.heap.size w w'' ∧ S'.n = 4 ∧ 1 ≤ k ∧ k ≤ 3 ∧ ((left : Int) < k → f = 8 ∧ S'.off = true) ∧ (k ≤ left → f = 0 ∧ S'.off = false ∧ S'.left = ((left - k : Nat) : Int) ∧ ∀ j, (S'.opn j).length ≤ 3 * (i + 1))) ?_ ?_
    · by_cases h0 : k0 = 0
      · obtain ⟨g', C', ov', hD'⟩ := hD
        obtain ⟨b1, b2⟩ := barrier_left ho (by omega)
        have hdec : decide ((k0 : Int) = 0) = true := by simp [h0]
        rw [hdec]

        refine E_cond_t rfl ?_
        refine E_seqR ?_
        refine EL_val (R_move rfl) rfl rfl rfl ?_
        refine EL_step rfl ?_
        refine EO_call K.bd14 rfl rfl (barrier_ok hD') ?_
        rintro _ w5 ⟨rfl, h5, hm5⟩
        refine EL_val (R_assign rfl) rfl rfl rfl ?_
        refine EL_nil ?_
        refine E_region ?_
        refine EL_val (R_assign rfl) rfl rfl rfl ?_
        refine EL_nil ?_
        refine thenQ_n ?_
        refine ⟨rfl, [(1, .slice (some ⟨ga, ia, none⟩) l.length c), (5, ptr d), (7, .int .i64 ((left : Nat) : Int)), (8, .int .i64 ((i : Nat) : Int)), (9, .int .i64 ((1 : Nat) : Int)), (10, .int .i64 ((barrierS S).2))], ⟨rfl, rfl, rfl, rfl, rfl, rfl, trivial⟩, 1, _, _, rfl, h5, bl_dm bl (Nat.le_refl _) hm5, ?_, by omega, by omega, fun hlt => ?_, fun hle => ?_⟩
        · by_cases hz : S.left = 0
          · rw [(b1 hz).2.2, hSn]
          · rw [(b2 (by omega)).2.2.1, hSn]
        · exact ⟨(b1 (by omega)).1, (b1 (by omega)).2.1⟩
        · obtain ⟨c1, c2, c3, c4, c5⟩ := b2 (by omega)
          exact ⟨c1, c2, by rw [c4]; omega, fun j => by have := c5 j; have := hop j; omega⟩
      · obtain ⟨q1, q2⟩ := putL_left (zeroW k0) S ho (by omega)
        rw [zeroW_length] at q1 q2
        have hdec : decide ((k0 : Int) = 0) = false := by simp; omega
        rw [hdec]

        refine E_cond_f rfl ?_
        refine E_seqR ?_
        refine EL_step rfl ?_
        refine EO_buildSlice0 Try.underlying40 K.sz34 rfl ?_
        intro w4 hn4
        refine EL_val (R_assign rfl) rfl rfl rfl ?_
        refine EL_nil ?_
        refine E_seq ?_
        refine E_seqR ?_
        refine EL_val (R_assign rfl) rfl rfl rfl ?_
        refine EL_nil ?_
        refine E_block ?_
        refine E_loop (fun m' e' w'' => ∃ (j : Nat) (v : Value) (xs : List Value), j ≤ k0 ∧ m' = k0 - j ∧ e' = [(1, .slice (some ⟨ga, ia, none⟩) l.length c), (5, ptr d), (7, .int .i64 (left : Int)), (8, .int .i64 (i : Int)), (9, .int .i64 (k0 : Int)), (11, v), (12, .int .i64 ((j : Nat) : Int))] ∧ w''.ownsRow w.heap.size 34 2 v j xs ∧ WL w'' w.heap.size (zeroW j) xs ∧ Disk w'' w.heap.size d S ∧ Below w.heap.size w w'') k0
          [(1, .slice (some ⟨ga, ia, none⟩) l.length c), (5, ptr d), (7, .int .i64 (left : Int)), (8, .int .i64 (i : Int)), (9, .int .i64 (k0 : Int)), (11, .slice (some ⟨w'.heap.size, 0, none⟩) 0 0), (12, .int .i64 ((0 : Nat) : Int))] ⟨rfl, rfl, rfl, rfl, rfl, rfl, rfl, trivial⟩ ⟨0, _, [], by omega, by omega, rfl, hn4.own0 (m := 0) rfl hBw (by simp only [maxLen]; omega), rfl, hD.no hn4.mods, bl_no bl (Nat.le_refl _) hn4.mods⟩ ?_
        rintro m' e w5 ⟨j, v, xs, hj, rfl, rfl, hown, hWL, hD5, bl5⟩
        have hxl := hWL.len
        rw [zeroW_length] at hxl
        by_cases hjk : j < k0
        · refine E_seq ?_
          refine E_seqR ?_
          refine EL_val (R_move rfl) rfl rfl rfl ?_
          refine EL_val (R_move rfl) rfl rfl rfl ?_
          first | refine EL_val (R_lss_t rfl rfl (by omega)) rfl rfl rfl ?_ | refine EL_val (R_lss_f rfl rfl (by omega)) rfl rfl rfl ?_
          refine EL_nil ?_
          refine E_cond_t rfl ?_
          refine E_skip ?_
          refine thenQ_n ?_
          refine E_seq ?_
          refine E_block ?_
          refine E_region ?_
          refine EL_val (R_move rfl) rfl rfl rfl ?_
          refine EL_val (R_move rfl) rfl rfl rfl ?_
          refine EL_step rfl ?_
          refine EO_makeSlice 64 64 rfl rfl Try.underlying23 K.zr5 K.sz5 K.by5 (by first | rfl | omega) (by first | rfl | omega) (by omega) (by omega) (by omega) rfl ?_
          intro w6 hn6
          refine EL_val (R_build (cells := #[.int .i64 (j : Int), .slice (some ⟨w5.heap.size, 0, none⟩) 64 64]) K.zr34 K.pl34 rfl rfl) rfl rfl rfl ?_
          refine EL_step rfl ?_
          refine EO_buildSlice Try.underlying40 K.zr34 K.sz34 rfl rfl rfl (fill_whole rfl (by rw [size_madeCells])) rfl ?_
          intro w7 hn7
          (have hm57 : Mods No w5 w7 := hn6.mods.trans hn7.mods; have hb6 : Bk w6 w5.heap.size (bv zeros64) 5 := mk64 ▸ hn6.bk; have hs6 := hn6.size; have hs7 := hn7.size; have hsz5 := bl5.size)
          refine EL_step rfl ?_
          refine EO_append rfl rfl Try.underlying40 K.sz34 K.zr34 K.by34 rfl (by decide) (hm57.own hown fun _ _ h => h) (Src.bk hn7.bk 1 2 [.int .i64 (j : Int), .slice (some ⟨w5.heap.size, 0, none⟩) 64 64] rfl (fun q u hq => by rw [Nat.zero_add]; show (#[.int .i64 (j : Int), .slice (some ⟨w5.heap.size, 0, none⟩) 64 64] : Array Value)[q]? = some u; simpa using hq)) (by simp [Value.oneCell']) (by simp only [maxLen]; omega) (by omega) (by omega) rfl ?_
          intro v8 w8 ho8 hm8 hat8
          refine EL_val (R_assign rfl) rfl rfl rfl ?_
          refine EL_nil ?_
          refine inB_n ?_
          refine thenQ_n ?_
          refine E_region ?_
          refine EL_val (R_move rfl) rfl rfl rfl ?_
          first | refine EL_val (R_inc rfl (by omega)) rfl rfl rfl ?_ | refine EL_val (R_add_in rfl rfl (by omega) (by omega)) rfl rfl rfl ?_
          refine EL_val (R_assign rfl) rfl rfl rfl ?_
          refine EL_nil ?_
          refine thenQ_n ?_
          refine ⟨rfl, k0 - (j + 1), [(1, .slice (some ⟨ga, ia, none⟩) l.length c), (5, ptr d), (7, .int .i64 (left : Int)), (8, .int .i64 (i : Int)), (9, .int .i64 (k0 : Int)), (11, v8), (12, .int .i64 ((j + 1 : Nat) : Int))], by omega, ⟨rfl, rfl, rfl, rfl, rfl, rfl, rfl, trivial⟩, j + 1, v8, _, by omega, rfl, rfl, ho8, ?_, ?_, ?_⟩
          · rw [zeroW_succ]
            have h1 : WL w7 w.heap.size (zeroW j) xs := WL.mods hm57 (fun _ _ _ _ h => h) hWL
            have h2 := h1.snoc (a := (j : Int)) (l := zeros64) (c := 64) (g := w5.heap.size) (by omega) (hn7.mods.bk' hb6)
            exact WL.mods hm8 (fun g lb _ hb hh => own_ne (hm57.own hown fun _ _ h => h) hb (by decide) hh) h2
          · exact (hD5.no hm57).own (hm57.own hown fun _ _ h => h) hm8 (by decide)
          · exact bl_own (bl_no bl5 (Nat.le_refl _) hm57) (Nat.le_refl _) (hm57.own hown fun _ _ h => h) hm8
        · have hjk' : j = k0 := by omega
          subst hjk'
          obtain ⟨Av, cv, rfl⟩ := own_slice hown
          obtain ⟨g', C', ov', hD'⟩ := hD5
          have hsz5 := bl5.size
          have hW : Writes w.heap.size w5 Av (zeroW j) := hWL.writes (c := cv) (by rw [zeroW_length]; exact hown) (by rw [zeroW_length]; omega)
          have hput := put_ok hD' (by omega) hW cv (fun q _ => by have := hop q; rw [zeroW_length]; omega)
          rw [putS_zeroW ho (by omega)] at hput
          simp only [zeroW_length] at hput
          refine E_seq ?_
          refine E_seqR ?_
          refine EL_val (R_move rfl) rfl rfl rfl ?_
          refine EL_val (R_move rfl) rfl rfl rfl ?_
          first | refine EL_val (R_lss_t rfl rfl (by omega)) rfl rfl rfl ?_ | refine EL_val (R_lss_f rfl rfl (by omega)) rfl rfl rfl ?_
          refine EL_nil ?_
          refine E_cond_f rfl ?_
          refine E_exit ?_
          refine thenQ_e ?_
          refine thenQ_e ?_
          refine inB_eq rfl ?_
          refine thenQ_n ?_
          refine E_region ?_
          refine EL_val (R_move rfl) rfl rfl rfl ?_
          refine EL_val (R_move rfl) rfl rfl rfl ?_
          refine EL_step rfl ?_
          refine EO_call K.bd10 rfl rfl (hput) ?_
          rintro _ w6 ⟨rfl, h6, hm6⟩
          refine EL_val (R_assign rfl) rfl rfl rfl ?_
          refine EL_nil ?_
          refine thenQ_n ?_
          refine ⟨rfl, [(1, .slice (some ⟨ga, ia, none⟩) l.length c), (5, ptr d), (7, .int .i64 ((left : Nat) : Int)), (8, .int .i64 ((i : Nat) : Int)), (9, .int .i64 ((j : Nat) : Int)), (10, .int .i64 ((putL S (zeroW j)).2))], ⟨rfl, rfl, rfl, rfl, rfl, rfl, trivial⟩, j, _, _, rfl, h6, bl_dm bl5 (Nat.le_refl _) hm6, by rw [putL_n, hSn], by omega, by omega, fun hlt => ?_, fun hle => ?_⟩
          · obtain ⟨c1, c2, _⟩ := q2 (by omega)
            exact ⟨c1, c2⟩
          · obtain ⟨c1, c2, c3, c4, c5⟩ := q1 (by omega)
            exact ⟨c1, c2, by rw [c4]; omega, fun q => by have := c5 q; have := hop q; omega⟩
    · rintro e0 w6 ⟨k, f, S', rfl, hD6, bl6, hS'n, hk1, hk2, hF, hG⟩
      by_cases hlt : (left : Int) < k
      · obtain ⟨rfl, hoff⟩ := hF hlt
        obtain ⟨g', C', ov', hD'⟩ := hD6
        have hgp := get_ok hD' 0
        have hbar : barrierS S' = (S', 8) := by simp [barrierS, hoff]
        have hb8 := barrier_ok hD'
        rw [hbar] at hb8
        refine E_seq ?_
        refine E_seqR ?_
        refine EL_val (R_move rfl) rfl rfl rfl ?_
        refine EL_val (R_move rfl) rfl rfl rfl ?_
        first | refine EL_val (R_lss_t rfl rfl (by omega)) rfl rfl rfl ?_ | refine EL_val (R_lss_f rfl rfl (by omega)) rfl rfl rfl ?_
        refine EL_nil ?_
        refine E_cond_t rfl ?_
        refine E_seqR ?_
        refine EL_val (R_move rfl) rfl rfl rfl ?_
        refine EL_step rfl ?_
        refine EO_call K.bd12 rfl rfl (hgp) ?_
        rintro _ w7 hg7
        (obtain ⟨rfl, rfl⟩ : _ ∧ w6 = w7 := by simpa [getP, hoff] using hg7)
        refine EL_val (R_move rfl) rfl rfl rfl ?_
        refine EL_val (R_extract rfl rfl) rfl rfl rfl ?_
        refine EL_val (R_extract rfl rfl) rfl rfl rfl ?_
        refine EL_val (R_assign rfl) rfl rfl rfl ?_
        refine EL_val (R_assign rfl) rfl rfl rfl ?_
        refine EL_nil ?_
        refine E_seq ?_
        refine E_seqR ?_
        refine EL_val (R_move rfl) rfl rfl rfl ?_
        first | refine EL_val (R_neq_t rfl rfl (by omega)) rfl rfl rfl ?_ | refine EL_val (R_neq_f rfl rfl (by omega)) rfl rfl rfl ?_
        refine EL_val (R_move rfl) rfl rfl rfl ?_
        first | refine EL_val (R_move rfl) rfl rfl rfl ?_ | refine EL_not rfl rfl rfl ?_
        first | refine EL_val (R_neq_t rfl rfl (by omega)) rfl rfl rfl ?_ | refine EL_val (R_neq_f rfl rfl (by omega)) rfl rfl rfl ?_ | refine EL_not rfl rfl rfl ?_
        first | refine EL_val (R_pick_t rfl rfl) rfl rfl rfl ?_ | refine EL_val (R_pick_f rfl rfl) rfl rfl rfl ?_
        refine EL_val (R_move rfl) rfl rfl rfl ?_
        first | refine EL_val (R_move rfl) rfl rfl rfl ?_ | refine EL_not rfl rfl rfl ?_
        refine EL_step rfl ?_
        refine EO_call K.bd14 rfl rfl (hb8) ?_
        rintro _ w8 ⟨rfl, h8, hm8⟩
        (obtain ⟨g8, C8, ov8, hD8⟩ := h8)
        first | refine EL_val (R_neq_t rfl rfl (by omega)) rfl rfl rfl ?_ | refine EL_val (R_neq_f rfl rfl (by omega)) rfl rfl rfl ?_ | refine EL_not rfl rfl rfl ?_
        first | refine EL_val (R_pick_t rfl rfl) rfl rfl rfl ?_ | refine EL_val (R_pick_f rfl rfl) rfl rfl rfl ?_
        refine EL_nil ?_
        refine E_cond_f rfl ?_
        refine E_skip ?_
        refine thenQ_n ?_
        refine E_seqR ?_
        refine EL_val (R_move rfl) rfl rfl rfl ?_
        refine EL_step rfl ?_
        refine EO_call K.bd11 rfl rfl (restart_ok hD8 ints_nil) ?_
        rintro _ w9 ⟨h9, hm9⟩
        (obtain ⟨g9, C9, ov9, hD9⟩ := h9)
        refine EL_nil ?_
        refine E_seqR ?_
        refine EL_val (R_move rfl) rfl rfl rfl ?_
        refine EL_step rfl ?_
        refine EO_call K.bd14 rfl rfl (barrier_ok hD9) ?_
        rintro _ w10 ⟨rfl, h10, hm10⟩
        first | refine EL_val (R_eql_t rfl rfl ((by simp [barrierS, restartS, spendS]))) rfl rfl rfl ?_ | refine EL_val (R_eql_f rfl rfl ((by simp [barrierS, restartS, spendS]))) rfl rfl rfl ?_
        refine EL_val (R_assign rfl) rfl rfl rfl ?_
        refine EL_nil ?_
        refine E_ret ?_
        refine thenQ_r (inB_r (thenQ_r (thenQ_r (inB_r (thenQ_r ?_)))))
        refine ret1 (.inr rfl) rfl rfl ?_
        exact ⟨rfl, bl_dm (bl_dm (bl_dm bl6 (Nat.le_refl _) hm8) (Nat.le_refl _) hm9) (Nat.le_refl _) hm10⟩
      · obtain ⟨rfl, hoff, hleft', hop'⟩ := hG (by omega)
        refine E_seq ?_
        refine E_seqR ?_
        refine EL_val (R_move rfl) rfl rfl rfl ?_
        refine EL_val (R_move rfl) rfl rfl rfl ?_
        first | refine EL_val (R_lss_t rfl rfl (by omega)) rfl rfl rfl ?_ | refine EL_val (R_lss_f rfl rfl (by omega)) rfl rfl rfl ?_
        refine EL_nil ?_
        refine E_cond_f rfl ?_
        refine E_skip ?_
        refine thenQ_n ?_
        refine E_seq ?_
        refine E_seqR ?_
        refine EL_val (R_move rfl) rfl rfl rfl ?_
        first | refine EL_val (R_neq_t rfl rfl (by omega)) rfl rfl rfl ?_ | refine EL_val (R_neq_f rfl rfl (by omega)) rfl rfl rfl ?_
        refine EL_nil ?_
        refine E_cond_f rfl ?_
        refine E_skip ?_
        refine thenQ_n ?_
        refine E_region ?_
        refine EL_val (R_move rfl) rfl rfl rfl ?_
        refine EL_val (R_move rfl) rfl rfl rfl ?_
        refine EL_val (R_subE (((left - k : Nat) : Int)) rfl rfl (by omega) (by omega) (by omega)) rfl rfl rfl ?_
        refine EL_val (R_assign rfl) rfl rfl rfl ?_
        refine EL_nil ?_
        refine inB_n ?_
        refine thenQ_n ?_
        refine E_region ?_
        refine EL_val (R_move rfl) rfl rfl rfl ?_
        first | refine EL_val (R_inc rfl (by omega)) rfl rfl rfl ?_ | refine EL_val (R_add_in rfl rfl (by omega) (by omega)) rfl rfl rfl ?_
        refine EL_val (R_assign rfl) rfl rfl rfl ?_
        refine EL_nil ?_
        refine thenQ_n ?_
        refine ⟨rfl, 100 - (i + 1), [(1, .slice (some ⟨ga, ia, none⟩) l.length c), (5, ptr d), (7, .int .i64 ((left - k : Nat) : Int)), (8, .int .i64 ((i + 1 : Nat) : Int))], by omega, ⟨rfl, rfl, rfl, rfl, trivial⟩, i + 1, left - k, S', by omega, rfl, rfl, by omega, hD6, hoff, hS'n, hleft', hop', bl6⟩
  · by_cases hi1 : i < l.length
    · refine E_seq ?_
      refine E_seqR ?_
      refine EL_val (R_move rfl) rfl rfl rfl ?_
      refine EL_val (R_move rfl) rfl rfl rfl ?_
      refine EL_val (R_lenSlice rfl Try.underlying23) rfl rfl rfl ?_
      first | refine EL_val (R_lss_t rfl rfl (by omega)) rfl rfl rfl ?_ | refine EL_val (R_lss_f rfl rfl (by omega)) rfl rfl rfl ?_
      refine EL_val (R_move rfl) rfl rfl rfl ?_
      first | refine EL_val (R_move rfl) rfl rfl rfl ?_ | refine EL_not rfl rfl rfl ?_
      first | refine EL_val (R_lss_t rfl rfl (by omega)) rfl rfl rfl ?_ | refine EL_val (R_lss_f rfl rfl (by omega)) rfl rfl rfl ?_ | refine EL_not rfl rfl rfl ?_
      first | refine EL_val (R_pick_t rfl rfl) rfl rfl rfl ?_ | refine EL_val (R_pick_f rfl rfl) rfl rfl rfl ?_
      refine EL_nil ?_
      refine E_cond_f rfl ?_
      refine E_exit ?_
      refine thenQ_e ?_
      refine thenQ_e ?_
      refine inB_eq rfl ?_
      refine thenQ_n ?_
      refine E_seqR ?_
      refine EL_val (R_assign rfl) rfl rfl rfl ?_
      refine EL_nil ?_
      refine E_ret ?_
      refine ret1 (.inr rfl) rfl rfl ?_
      exact ⟨rfl, bl⟩
    · refine E_seq ?_
      refine E_seqR ?_
      refine EL_val (R_move rfl) rfl rfl rfl ?_
      refine EL_val (R_move rfl) rfl rfl rfl ?_
      refine EL_val (R_lenSlice rfl Try.underlying23) rfl rfl rfl ?_
      first | refine EL_val (R_lss_t rfl rfl (by omega)) rfl rfl rfl ?_ | refine EL_val (R_lss_f rfl rfl (by omega)) rfl rfl rfl ?_
      refine EL_val (R_move rfl) rfl rfl rfl ?_
      refine EL_not rfl rfl rfl ?_
      refine EL_not rfl rfl rfl ?_
      first | refine EL_val (R_pick_t rfl rfl) rfl rfl rfl ?_ | refine EL_val (R_pick_f rfl rfl) rfl rfl rfl ?_
      refine EL_nil ?_
      refine E_cond_f rfl ?_
      refine E_exit ?_
      refine thenQ_e ?_
      refine thenQ_e ?_
      refine inB_eq rfl ?_
      refine thenQ_n ?_
      refine E_seqR ?_
      refine EL_val (R_assign rfl) rfl rfl rfl ?_
      refine EL_nil ?_
      refine E_ret ?_
      refine ret1 (.inr rfl) rfl rfl ?_
      exact ⟨rfl, bl⟩
theorem fails_row {H : Type} {enc : TypeId × Value → H} {W : World} {base : Nat} {v0 v1 : Value} {d0 d1 : DataW H} {p0 p1 : List MemPlace} (k0 : Value.okWide Try.prog W .any base 5 v0) (h0 : DataW.Trod enc Try.prog W 0 (fun _ => true) true 5 v0 d0 p0)
    (k1 : Value.okWide Try.prog W .any base 23 v1) (h1 : DataW.Trod enc Try.prog W 0 (fun _ => true) true 23 v1 d1 p1) :
    Ret Try.prog 6 [v0, v1] W fun r w' => r = .bool true ∧ Below W.heap.size W w' := by
  obtain ⟨n, rfl, rfl, rfl, hn⟩ := open_int Try.underlying5 k0 h0
  obtain ⟨A, len, c, rfl⟩ := okWide_slice Try.underlying23 k1
  obtain ⟨fuel, hf⟩ := h1
  obtain ⟨A', l, c', hv, hl⟩ := bytes_open hf
  rw [hv]
  have hb := byte_of_wf hn
  obtain ⟨m, rfl⟩ : ∃ m : Nat, n = m := ⟨n.toNat, by omega⟩
  exact fails_walk m (by omega) hl
theorem diskFails_own : ownKnob Try.prog.godebug = none := by kernel_rfl
theorem diskFails_laidOut : laidOutB Try.prog = true := by kernel_rfl
set_option maxRecDepth 100000 in
theorem diskFails_lifted (os : Os) (started : os.Started) (H : Type) (enc : TypeId × Value → H) :
    ReturnsInHanded {} Try.checked os 6 .any (Rows.diskFailsSpec.pre6 enc Try.prog Try.f6 Rows.diskFailsRow.domain false) (Rows.diskFailsSpec.post enc Try.prog Try.f6 false true false false) := by
  refine returnsInHanded_of_change (C := Try.checked) diskFails_own started (by kernel_rfl) Try.func6
    (ChangeSpec.witness6 (enc := enc) (C := Try.checked) false ⟨#[], #[.int .u8 0, .slice none 0 0], []⟩ 8 (by kernel_rfl) (by kernel_rfl) (by kernel_rfl) (by kernel_rfl)) ?_
  intro W base args ds gs before hval0 hW hcnd _
  have hval : ∀ (j : Nat) t v, Try.f6.params[j]? = some t → args[j]? = some v → Value.okWide Try.prog W .any base t v := hval0
  have hW' := hW
  obtain ⟨p, q, hA0, hV, rfl, hfz, hnd⟩ := hW
  have hA : DataW.TrodAll enc Try.prog W 0 (fun _ => true) true Try.f6.params.toList args.toList ds p := hA0
  rw [Try.params6] at hA hval
  obtain ⟨v0, vs0, d0, ds0, p0, q0, hargs, rfl, rfl, h0, r0⟩ := trodAll_cons hA
  obtain ⟨v1, vs1, d1, ds1, p1, q1, rfl, rfl, rfl, h1, r1⟩ := trodAll_cons r0
  obtain ⟨rfl, rfl, rfl⟩ := trodAll_nil r1
  obtain rfl : args = #[v0, v1] := by cases args; simp_all
  obtain ⟨rfl, rfl⟩ := trodVars_none hV
  have lt0 : ∀ x ∈ p0, x.block < W.heap.size := by obtain ⟨m, hm⟩ := h0; exact DataW.trod_lt m _ _ _ hm
  have lt1 : ∀ x ∈ p1, x.block < W.heap.size := by obtain ⟨m, hm⟩ := h1; exact DataW.trod_lt m _ _ _ hm
  clear hA0 hval0
  refine Calls.mono (fails_row (hval 0 5 v0 rfl rfl) h0 (hval 1 23 v1 rfl rfl) h1) ?_
  rintro x W' ⟨v, rfl, rfl, bel⟩
  exact ⟨_, rfl, _, _, _, [], _, [], hW', trodAll_mk1 (shut_bool Try.underlying4 _), (trodAll_cons_mk (Below.trod diskFails_laidOut (by kernel_rfl) (of_decide_eq_true (by kernel_rfl)) h0 bel lt0) (trodAll_cons_mk (Below.trod diskFails_laidOut (by kernel_rfl) (of_decide_eq_true (by kernel_rfl)) h1 bel lt1) trodAll_mk0)), rfl, bel.frame _, fun h => by cases h⟩
/-- THE STATEMENT -/
theorem diskFails_holds : Rows.DiskFailsSaid :=
  OpenClaim.holds_of_wide 6 Try.f6 rfl rfl rfl rfl rfl rfl rfl ⟨rfl, rfl, rfl, rfl, rfl⟩ rfl rfl rfl rfl rfl (by kernel_rfl) Try.func6 (by kernel_rfl)
    (of_decide_eq_true (by kernel_rfl)) (by unfold Func.isWrapper; first | (rw [if_pos (by decide +kernel)]; kernel_rfl) | (rw [if_neg (by decide +kernel)]; exact ⟨rfl, rfl⟩))
    (fun os started H enc _ => diskFails_lifted os started H enc)
#print axioms diskFails_holds
end Go.Proofs.Ytphnhhcefoghpaa
