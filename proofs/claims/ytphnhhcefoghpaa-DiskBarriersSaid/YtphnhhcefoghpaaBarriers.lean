/- 'drydocklaw07.DiskBarriers' returns true for every input; the arguments read as they did. -/
import Derived.Test.YtphnhhcefoghpaaBarriers0
import Derived.Test.YtphnhhcefoghpaaRows
import Derived.ChangeOld
import Derived.OpenShut
set_option linter.unusedVariables false
set_option linter.unusedSimpArgs false
set_option maxRecDepth 100000
namespace Go.Proofs.Ytphnhhcefoghpaa
open Go.EW Go.RowKit Go.ChangeShapes Go.WideShapes Go.ChangeAt

theorem barriers_walk {w : World} {A1 A2 A3 : Option Addr} {T : List (List UInt8)} {a : List UInt8} {ks : List Int} {c1 c2 c3 : Nat} (hT : BytessAt w.heap.size w A1 T) (ha : BytesAt w.heap.size w A2 a) (hk : IntsAt w.heap.size w A3 ks) :
    Ret Try.prog 4 [.slice A1 T.length c1, .slice A2 a.length c2, .slice A3 ks.length c3] w fun r w' => r = .bool true ∧ Below w.heap.size w w' := by
  have hT1 := hT.1
  have ha1 := ha.1
  refine Ret.enter Try.func4 rfl Try.ntmps4 rfl ?_
  simp only [argEnv, Nat.reduceAdd]
  refine E_seqR ?_
  refine EL_val (R_assign rfl) rfl rfl rfl ?_
  refine EL_nil ?_
  refine E_seqR ?_
  refine EL_step rfl ?_
  refine EO_call K.bd8 rfl rfl ((new_ok (n := 7) (B := w.heap.size) (by omega) (by omega) (Nat.le_refl _))) ?_
  rintro _ w1 ⟨d, rfl, hD1, hm1⟩
  refine EL_val (R_move rfl) rfl rfl rfl ?_
  refine EL_val (R_extract rfl rfl) rfl rfl rfl ?_
  refine EL_val (R_extract rfl rfl) rfl rfl rfl ?_
  refine EL_val (R_assign rfl) rfl rfl rfl ?_
  refine EL_val (R_assign rfl) rfl rfl rfl ?_
  refine EL_nil ?_
  refine E_seq ?_
  refine E_seqR ?_
  refine EL_step rfl ?_
  refine EO_call K.bd9 rfl rfl (awake_ok) ?_
  rintro _ w2 ⟨rfl, hm2⟩
  refine EL_val (R_not rfl) rfl rfl rfl ?_
  refine EL_val (R_move rfl) rfl rfl rfl ?_
  first | refine EL_val (R_move rfl) rfl rfl rfl ?_ | refine EL_not rfl rfl rfl ?_
  first | refine EL_val (R_neq_t rfl rfl (by omega)) rfl rfl rfl ?_ | refine EL_val (R_neq_f rfl rfl (by omega)) rfl rfl rfl ?_ | refine EL_not rfl rfl rfl ?_
  first | refine EL_val (R_pick_t rfl rfl) rfl rfl rfl ?_ | refine EL_val (R_pick_f rfl rfl) rfl rfl rfl ?_
  refine EL_val (R_move rfl) rfl rfl rfl ?_
  first | refine EL_val (R_move rfl) rfl rfl rfl ?_ | refine EL_not rfl rfl rfl ?_
  first | refine EL_val (R_eqlPtrNil rfl Try.underlying25) rfl rfl rfl ?_ | refine EL_not rfl rfl rfl ?_
  first | refine EL_val (R_pick_t rfl rfl) rfl rfl rfl ?_ | refine EL_val (R_pick_f rfl rfl) rfl rfl rfl ?_
  refine EL_nil ?_
  refine E_cond_f rfl ?_
  refine E_skip ?_
  refine thenQ_n ?_
  refine E_seqR ?_
  refine EL_step rfl ?_
  refine EO_buildSlice0 Try.underlying40 K.sz34 rfl ?_
  intro w3 hn3
  refine EL_val (R_assign rfl) rfl rfl rfl ?_
  refine EL_nil ?_
  refine E_seqR ?_
  refine EL_step rfl ?_
  refine EO_makeSlice 7 7 rfl rfl Try.underlying31 K.zr9 K.sz9 K.by9 (by first | rfl | omega) (by first | rfl | omega) (by omega) (by omega) (by omega) rfl ?_
  intro w4 hn4
  refine EL_val (R_assign rfl) rfl rfl rfl ?_
  refine EL_nil ?_
  refine E_seq ?_
  refine E_seqR ?_
  refine EL_val (R_assign rfl) rfl rfl rfl ?_
  refine EL_nil ?_
  refine E_block ?_
  have hm14 : Mods No w w4 := ((hm1.trans hm2).trans hn3.mods).trans hn4.mods
  have hD4 : Disk w4 w.heap.size d (newS 7) := hD1.no ((hm2.trans hn3.mods).trans hn4.mods)
  have hs1 := hm1.size
  have hs2 := hm2.size
  have hs3 := hn3.size
  have ho4 : w4.ownsRow w.heap.size 34 2 (.slice (some ⟨w2.heap.size, 0, none⟩) 0 0) 0 [] := hn4.mods.own (hn3.own0 (m := 0) rfl (by omega) (by simp only [maxLen]; omega)) fun _ _ h => h
  obtain ⟨gl, hgl⟩ : ∃ gl, gl = w3.heap.size := ⟨_, rfl⟩
  rw [← hgl]
  have hb4 := hn4.bk
  rw [← hgl] at hb4
  have hglB : w.heap.size ≤ gl := by omega
  have bl4 : Below w.heap.size w w4 := bl_no (Below.refl _ _) (Nat.le_refl _) hm14
  clear hm14 hD1 hgl
  refine E_loop (fun m' e' w' => ∃ (i : Nat) (C : Array Value), i ≤ 7 ∧ m' = 7 - i ∧ e' = [(0, .slice A1 T.length c1), (1, .slice A2 a.length c2), (2, .slice A3 ks.length c3), (7, ptr d), (9, .slice (some ⟨w2.heap.size, 0, none⟩) 0 0), (10, .slice (some ⟨gl, 0, none⟩) 7 7), (11, .int .i64 ((i : Nat) : Int))] ∧ Bk w' gl C 9 ∧ C.size = 7 ∧ (∀ j, j < i → C[j]? = some (.string (str zeros64))) ∧ Disk w' w.heap.size d (newS 7) ∧ w'.ownsRow w.heap.size 34 2 (.slice (some ⟨w2.heap.size, 0, none⟩) 0 0) 0 [] ∧ Below w.heap.size w w') 7 [(0, .slice A1 T.length c1), (1, .slice A2 a.length c2), (2, .slice A3 ks.length c3), (7, ptr d), (9, .slice (some ⟨w2.heap.size, 0, none⟩) 0 0), (10, .slice (some ⟨gl, 0, none⟩) 7 7), (11, .int .i64 ((0 : Nat) : Int))] ⟨rfl, rfl, rfl, rfl, rfl, rfl, rfl, trivial⟩
    ⟨0, _, by omega, rfl, rfl, hb4, by simp [size_madeCells], fun j hj => by omega, hD4, ho4, bl4⟩ ?_
  clear hb4 ho4 bl4 hD4 hn4 hn3
  rintro m' e w5 ⟨i, C, hi, rfl, rfl, hb5, hC, hz, hD5, ho5, bl5⟩
  by_cases hi7 : i < 7
  · refine E_seq ?_
    refine E_seqR ?_
    refine EL_val (R_move rfl) rfl rfl rfl ?_
    first | refine EL_val (R_lss_t rfl rfl (by omega)) rfl rfl rfl ?_ | refine EL_val (R_lss_f rfl rfl (by omega)) rfl rfl rfl ?_
    refine EL_nil ?_
    refine E_cond_t rfl ?_
    refine E_skip ?_
    refine thenQ_n ?_
    refine E_seq ?_
    refine E_block ?_
    refine E_region ?_
    refine EL_val (R_move rfl) rfl rfl rfl ?_
    refine EL_val (R_move rfl) rfl rfl rfl ?_
    refine EL_step rfl ?_
    refine EO_makeSlice 64 64 rfl rfl Try.underlying23 K.zr5 K.sz5 K.by5 (by first | rfl | omega) (by first | rfl | omega) (by omega) (by omega) (by omega) rfl ?_
    intro w6 hn6
    (have hb6 : Bk w6 w5.heap.size (bv zeros64) 5 := mk64 ▸ hn6.bk)
    refine EL_val (R_bytesStr rfl (src_bv hb6) rfl Try.underlying23 Try.underlying5 Try.underlying9) rfl rfl rfl ?_
    refine EL_val (R_indexAddr rfl rfl Try.underlying31 K.sz9 rfl (by omega)) rfl rfl rfl ?_
    refine EL_step rfl ?_
    refine EO_store1 rfl rfl K.sz9 rfl (hn6.mods.bk' hb5) (by omega) ?_
    intro w7 hu7
    refine EL_nil ?_
    refine inB_n ?_
    refine thenQ_n ?_
    refine E_region ?_
    refine EL_val (R_move rfl) rfl rfl rfl ?_
    first | refine EL_val (R_inc rfl (by omega)) rfl rfl rfl ?_ | refine EL_val (R_add_in rfl rfl (by omega) (by omega)) rfl rfl rfl ?_
    refine EL_val (R_assign rfl) rfl rfl rfl ?_
    refine EL_nil ?_
    refine thenQ_n ?_
    have hlt := hb5.lt
    have hs6 := hn6.size
    refine ⟨rfl, 7 - (i + 1), [(0, .slice A1 T.length c1), (1, .slice A2 a.length c2), (2, .slice A3 ks.length c3), (7, ptr d), (9, .slice (some ⟨w2.heap.size, 0, none⟩) 0 0), (10, .slice (some ⟨gl, 0, none⟩) 7 7), (11, .int .i64 ((i + 1 : Nat) : Int))], by omega, ⟨rfl, rfl, rfl, rfl, rfl, rfl, rfl, trivial⟩, i + 1, _, by omega, rfl, rfl, hu7.bk, by simpa using hC, fun j hj => ?_, ?_, ?_, ?_⟩
    · by_cases hji : j = i
      · subst hji
        rw [Nat.mul_one, Nat.zero_add, Array.getElem?_setIfInBounds_self_of_lt (by omega)]
      · rw [Nat.mul_one, Nat.zero_add, Array.getElem?_setIfInBounds_ne (by omega)]
        exact hz j (by omega)
    · exact (hD5.no hn6.mods).mods hu7.mods fun k hf hk => by subst hk; exact foot_not (hn6.mods.bk' hb5) (by decide) hf
    · exact hu7.mods.own (hn6.mods.own ho5 fun _ _ h => h) fun k hk hkg => by
        subst hkg
        exact own_ne (hn6.mods.own ho5 fun _ _ h => h) (hn6.mods.bk' hb5) (by decide) hk.symm
    · exact bl_upd (bl_no bl5 (Nat.le_refl _) hn6.mods) (Nat.le_refl _) hu7 hglB
  have hi' : i = 7 := by omega
  subst hi'
  have hst5 : Strs C 7 (lastOf (bwL T a 0)) := ⟨hC, fun j hj => by rw [hz j hj]; rfl⟩
  refine E_seq ?_
  refine E_seqR ?_
  refine EL_val (R_move rfl) rfl rfl rfl ?_
  first | refine EL_val (R_lss_t rfl rfl (by omega)) rfl rfl rfl ?_ | refine EL_val (R_lss_f rfl rfl (by omega)) rfl rfl rfl ?_
  refine EL_nil ?_
  refine E_cond_f rfl ?_
  refine E_exit ?_
  refine thenQ_e ?_
  refine thenQ_e ?_
  refine inB_eq rfl ?_
  refine thenQ_n ?_
  refine E_seq ?_
  refine E_seqR ?_
  refine EL_val (R_assign rfl) rfl rfl rfl ?_
  refine EL_nil ?_
  refine E_cut (fun e0 w6 => ∃ (i : Nat) (v : Value) (xs : List Value) (C : Array Value) (AA BB : Option Addr), i ≤ 40 ∧ e0 = [(0, .slice (AA) T.length c1), (1, .slice (BB) a.length c2), (2, .slice A3 ks.length c3), (7, ptr d), (9, v), (10, .slice (some ⟨gl, 0, none⟩) 7 7), (12, .int .i64 ((i : Nat) : Int))] ∧ Bk w6 gl C 9 ∧ Strs C 7 (lastOf (bwL T a i)) ∧ Disk w6 w.heap.size d (newS 7) ∧ w6.ownsRow w.heap.size 34 2 v i xs ∧ WL w6 w.heap.size (bwL T a i) xs ∧ Below w.heap.size w w6) ?_ ?_
  · refine E_block ?_
    refine E_loop (fun m' e' w' => ∃ (i : Nat) (v : Value) (xs : List Value) (C : Array Value), i ≤ 40 ∧ m' = 40 - i ∧ e' = [(0, .slice (A1) T.length c1), (1, .slice (A2) a.length c2), (2, .slice A3 ks.length c3), (7, ptr d), (9, v), (10, .slice (some ⟨gl, 0, none⟩) 7 7), (12, .int .i64 ((i : Nat) : Int))] ∧ Bk w' gl C 9 ∧ Strs C 7 (lastOf (bwL T a i)) ∧ Disk w' w.heap.size d (newS 7) ∧ w'.ownsRow w.heap.size 34 2 v i xs ∧ WL w' w.heap.size (bwL T a i) xs ∧ Below w.heap.size w w') 40 [(0, .slice (A1) T.length c1), (1, .slice (A2) a.length c2), (2, .slice A3 ks.length c3), (7, ptr d), (9, .slice (some ⟨w2.heap.size, 0, none⟩) 0 0), (10, .slice (some ⟨gl, 0, none⟩) 7 7), (12, .int .i64 ((0 : Nat) : Int))] ⟨rfl, rfl, rfl, rfl, rfl, rfl, rfl, trivial⟩
      ⟨0, _, [], C, by omega, rfl, rfl, hb5, hst5, hD5, ho5, rfl, bl5⟩ ?_
    clear hst5 hb5 ho5 bl5 hD5 hz hC
    clear C
    rintro m' e w5 ⟨i, v, xs, C, hi, rfl, rfl, hb5, hst, hD5, hown, hWL, bl5⟩
    have hC := hst.1
    have hxl := hWL.len
    rw [bwL_length] at hxl
    by_cases hin : i < T.length ∧ i < a.length ∧ i < 40
    · obtain ⟨hi1, hi2, hi3⟩ := hin
      obtain ⟨gt, it, rfl, hgt, hct⟩ := hT.2 (by omega)
      obtain ⟨ga, ia, rfl, hga, hca⟩ := ha.2 (by omega)
      obtain ⟨Ak, ck, hk1, hk2⟩ := hct i hi1
      have hca' : w.cell? ⟨ga, ia + i, none⟩ = some (.int .u8 (a[i].toNat : Int)) := hca i _ (by simp [bv, List.getElem?_eq_getElem hi2])
      have hbw : bw T a i = (((a[i].toNat % 7 : Nat) : Int), pad64 T[i]) := by simp [bw, List.getD_eq_getElem?_getD, List.getElem?_eq_getElem hi1, List.getElem?_eq_getElem hi2]
      obtain ⟨r, hr⟩ : ∃ r : Nat, r = a[i].toNat % 7 := ⟨_, rfl⟩
      have hr7 : r < 7 := by omega
      rw [← hr] at hbw
      have h64 : (bv zeros64).size = 64 := by rw [bv_size]; rfl
      have hlt5 := hb5.lt
      refine E_seq ?_
      refine E_seqR ?_
      refine EL_val (R_move rfl) rfl rfl rfl ?_
      refine EL_val (R_move rfl) rfl rfl rfl ?_
      refine EL_val (R_lenSlice rfl Try.underlying22) rfl rfl rfl ?_
      first | refine EL_val (R_lss_t rfl rfl (by omega)) rfl rfl rfl ?_ | refine EL_val (R_lss_f rfl rfl (by omega)) rfl rfl rfl ?_
      refine EL_val (R_move rfl) rfl rfl rfl ?_
      first | refine EL_val (R_move rfl) rfl rfl rfl ?_ | refine EL_not rfl rfl rfl ?_
      first | refine EL_val (R_move rfl) rfl rfl rfl ?_ | refine EL_not rfl rfl rfl ?_
      first | refine EL_val (R_lenSlice rfl Try.underlying23) rfl rfl rfl ?_ | refine EL_not rfl rfl rfl ?_
      first | refine EL_val (R_lss_t rfl rfl (by omega)) rfl rfl rfl ?_ | refine EL_val (R_lss_f rfl rfl (by omega)) rfl rfl rfl ?_ | refine EL_not rfl rfl rfl ?_
      first | refine EL_val (R_pick_t rfl rfl) rfl rfl rfl ?_ | refine EL_val (R_pick_f rfl rfl) rfl rfl rfl ?_
      refine EL_val (R_move rfl) rfl rfl rfl ?_
      first | refine EL_val (R_move rfl) rfl rfl rfl ?_ | refine EL_not rfl rfl rfl ?_
      first | refine EL_val (R_lss_t rfl rfl (by omega)) rfl rfl rfl ?_ | refine EL_val (R_lss_f rfl rfl (by omega)) rfl rfl rfl ?_ | refine EL_not rfl rfl rfl ?_
      first | refine EL_val (R_pick_t rfl rfl) rfl rfl rfl ?_ | refine EL_val (R_pick_f rfl rfl) rfl rfl rfl ?_
      refine EL_nil ?_
      refine E_cond_t rfl ?_
      refine E_skip ?_
      refine thenQ_n ?_
      refine E_seq ?_
      refine E_block ?_
      refine E_seqR ?_
      refine EL_step rfl ?_
      refine EO_makeSlice 64 64 rfl rfl Try.underlying23 K.zr5 K.sz5 K.by5 (by first | rfl | omega) (by first | rfl | omega) (by omega) (by omega) (by omega) rfl ?_
      intro w6 hn6
      (have hb6 : Bk w6 w5.heap.size (bv zeros64) 5 := mk64 ▸ hn6.bk; have bl6 := bl_no bl5 (Nat.le_refl _) hn6.mods)
      refine EL_val (R_assign rfl) rfl rfl rfl ?_
      refine EL_nil ?_
      refine E_seqR ?_
      refine EL_val (R_move rfl) rfl rfl rfl ?_
      refine EL_val (R_move rfl) rfl rfl rfl ?_
      refine EL_val (R_move rfl) rfl rfl rfl ?_
      refine EL_val (R_indexAddr rfl rfl Try.underlying22 K.sz23 rfl (by omega)) rfl rfl rfl ?_
      refine EL_val (R_load rfl K.ag23 ((by rw [Nat.mul_one]; exact (bl6.cell (p := ⟨gt, it + i, none⟩) hgt).trans hk1))) rfl rfl rfl ?_
      refine EL_step rfl ?_
      refine EO_copy hb6 (hk2.below bl6).src one_bytes (by omega) rfl rfl Try.underlying23 K.sz5 rfl ?_
      intro w7 hu7
      (have hb7 : Bk w7 w5.heap.size (bv (pad64 T[i])) 5 := splice_pad T[i] ▸ hu7.bk; have bl7 := bl_upd bl6 (Nat.le_refl _) hu7 (by have := bl5.size; omega); have hs6 := hn6.size; have hs7 := hu7.size; have hsz5 := bl5.size)
      refine EL_nil ?_
      refine E_seqR ?_
      refine EL_val (R_move rfl) rfl rfl rfl ?_
      refine EL_val (R_move rfl) rfl rfl rfl ?_
      refine EL_val (R_move rfl) rfl rfl rfl ?_
      refine EL_val (R_indexAddr rfl rfl Try.underlying23 K.sz5 rfl (by omega)) rfl rfl rfl ?_
      refine EL_val (R_load rfl K.ag5 ((by rw [Nat.mul_one]; exact (bl7.cell (p := ⟨ga, ia + i, none⟩) hga).trans hca'))) rfl rfl rfl ?_
      refine EL_val (R_remE (r : Int) (by omega) (by omega) (by omega) rfl rfl) rfl rfl rfl ?_
      refine EL_val (R_convInt (r : Int) (wrap_i64_in (by omega) (by omega)) rfl Try.underlying5 Try.underlying3) rfl rfl rfl ?_
      refine EL_val (R_move rfl) rfl rfl rfl ?_
      refine EL_val (R_build (cells := #[.int .i64 (r : Int), .slice (some ⟨w5.heap.size, 0, none⟩) 64 64]) K.zr34 K.pl34 rfl rfl) rfl rfl rfl ?_
      refine EL_step rfl ?_
      refine EO_buildSlice Try.underlying40 K.zr34 K.sz34 rfl rfl rfl (fill_whole rfl (by rw [size_madeCells])) rfl ?_
      intro w8 hn8
      (have hm57 : Mods No w5 w7 := hn6.mods.trans' hu7.mods (fun k hk hh => by omega); have hown8 := (hm57.trans hn8.mods).own hown fun _ _ h => h; have hs8 := hn8.size)
      refine EL_step rfl ?_
      refine EO_append rfl rfl Try.underlying40 K.sz34 K.zr34 K.by34 rfl (by decide) hown8 (Src.bk hn8.bk 1 2 [.int .i64 (r : Int), .slice (some ⟨w5.heap.size, 0, none⟩) 64 64] rfl (fun q u hq => by rw [Nat.zero_add]; show (#[.int .i64 (r : Int), .slice (some ⟨w5.heap.size, 0, none⟩) 64 64] : Array Value)[q]? = some u; simpa using hq)) (by simp [Value.oneCell']) (by simp only [maxLen]; omega) (by omega) (by omega) rfl ?_
      intro v9 w9 ho9 hm9 hat9
      refine EL_val (R_assign rfl) rfl rfl rfl ?_
      refine EL_nil ?_
      refine E_regionD (fun w' => [(9, fun w'' => w'' = w')]) 10 K.mix rfl ?_
      intro w10 hm10 hh10
      (have hm58 : Mods No w5 w8 := hm57.trans hn8.mods; have bl8 := bl_no bl5 (Nat.le_refl _) hm58; have bl9 := bl_own bl8 (Nat.le_refl _) hown8 hm9; have bl10 := bl_no bl9 (Nat.le_refl _) hm10; have hb10g : Bk w10 gl C 9 := hm10.bk' (hm9.bk (hm58.bk' hb5) (own_ne hown8 (hm58.bk' hb5) (by decide))); have hb10 : Bk w10 w5.heap.size (bv (pad64 T[i])) 5 := hm10.bk' (hm9.bk (hn8.mods.bk' hb7) (own_ne hown8 (hn8.mods.bk' hb7) (by decide))))
      refine EA_pure 0 rfl (fun _ => R_move rfl) (by kernel_rfl) rfl rfl rfl ?_
      refine EA_pure 1 rfl (fun _ => R_move rfl) (by kernel_rfl) rfl rfl rfl ?_
      refine EA_pure 2 rfl (fun _ => R_move rfl) (by kernel_rfl) rfl rfl rfl ?_
      refine EA_pure 3 rfl (fun _ => R_indexAddr rfl rfl Try.underlying23 K.sz5 rfl (by omega)) (by kernel_rfl) rfl rfl rfl ?_
      refine EA_still 4 [5, 8, 9] rfl (R_load rfl K.ag5 ((by rw [Nat.mul_one]; exact (bl10.cell (p := ⟨ga, ia + i, none⟩) hga).trans hca'))) rfl (by kernel_rfl) (by kernel_rfl) rfl rfl rfl ?_
      refine EA_pure 5 rfl (fun _ => R_remE (r : Int) (by omega) (by omega) (by omega) rfl rfl) (by kernel_rfl) rfl rfl rfl ?_
      refine EA_pure 6 rfl (fun _ => R_move rfl) (by kernel_rfl) rfl rfl rfl ?_
      refine EA_still 7 [8, 9] rfl (R_bytesStr (pad64_length T[i]) (by have := src_bv hb10; rwa [pad64_length] at this) rfl Try.underlying23 Try.underlying5 Try.underlying9) rfl (by kernel_rfl) (by kernel_rfl) rfl rfl rfl ?_
      refine EA_pure 8 rfl (fun _ => R_indexAddr rfl rfl Try.underlying31 K.sz9 (m := r) rfl hr7) (by kernel_rfl) rfl rfl rfl ?_
      refine EA_one 9 rfl (by kernel_rfl) rfl ⟨fun _ => rfl, trivial⟩ ?_
      refine EO_store1 rfl rfl K.sz9 rfl hb10g (by omega) ?_
      intro w11 hu11
      refine EA_done (by kernel_rfl) (Holds.done (by kernel_rfl)) ?_
      refine inB_n ?_
      refine thenQ_n ?_
      refine E_region ?_
      refine EL_val (R_move rfl) rfl rfl rfl ?_
      first | refine EL_val (R_inc rfl (by omega)) rfl rfl rfl ?_ | refine EL_val (R_add_in rfl rfl (by omega) (by omega)) rfl rfl rfl ?_
      refine EL_val (R_assign rfl) rfl rfl rfl ?_
      refine EL_nil ?_
      refine thenQ_n ?_
      have hlt11 := bl10.size
      have hstr : (C.setIfInBounds (0 + r * 1) (.string (str (pad64 T[i])))) = C.setIfInBounds r (.string (str (pad64 T[i]))) := by rw [Nat.zero_add, Nat.mul_one]
      rw [hstr] at hu11
      have hown10 := hm10.own ho9 fun _ _ h => h
      refine ⟨rfl, 40 - (i + 1), [(0, .slice (some ⟨gt, it, none⟩) T.length c1), (1, .slice (some ⟨ga, ia, none⟩) a.length c2), (2, .slice A3 ks.length c3), (7, ptr d), (9, v9), (10, .slice (some ⟨gl, 0, none⟩) 7 7), (12, .int .i64 ((i + 1 : Nat) : Int))], by omega, ⟨rfl, rfl, rfl, rfl, rfl, rfl, rfl, trivial⟩, i + 1, v9, xs ++ [.int .i64 (r : Int), .slice (some ⟨w5.heap.size, 0, none⟩) 64 64], _, by omega, rfl, rfl, hu11.bk, ?_, ?_, ?_, ?_, ?_⟩
      · rw [bwL_succ, hbw, lastOf_snoc, Int.toNat_natCast]
        exact hst.set hr7 _
      · exact (((hD5.no hm58).own hown8 hm9 (by decide)).no hm10).mods hu11.mods fun k hf hk => by subst hk; exact foot_not hb10g (by decide) hf
      · exact hu11.mods.own hown10 fun k hk hkg => by
          subst hkg
          exact own_ne hown10 hb10g (by decide) hk.symm
      · rw [bwL_succ, hbw]
        have h1 : WL w8 w.heap.size (bwL T a i) xs := WL.mods hm58 (fun _ _ _ _ h => h) hWL
        have h2 := h1.snoc (a := (r : Int)) (l := pad64 T[i]) (c := 64) (g := w5.heap.size) hsz5 (hn8.mods.bk' hb7)
        rw [pad64_length] at h2
        have h3 := WL.mods hm9 (fun g lb _ hb hh => own_ne hown8 hb (by decide) hh) h2
        have h4 := WL.mods hm10 (fun _ _ _ _ h => h) h3
        exact WL.mods hu11.mods (fun g lb _ hb hh => by subst hh; exact absurd (hb.inj hb10g).2 (by decide)) h4
      · exact bl_upd bl10 (Nat.le_refl _) hu11 hglB
    have hex : ¬ i < T.length ∨ (i < T.length ∧ ¬ i < a.length) ∨ (i < T.length ∧ i < a.length ∧ ¬ i < 40) := by omega
    have hfin : ∃ (i' : Nat) (v' : Value) (xs : List Value) (C : Array Value) (AA BB : Option Addr), i' ≤ 40 ∧ [(0, .slice (A1) T.length c1), (1, .slice (A2) a.length c2), (2, .slice A3 ks.length c3), (7, ptr d), (9, v), (10, .slice (some ⟨gl, 0, none⟩) 7 7), (12, .int .i64 ((i : Nat) : Int))] = [(0, .slice (AA) T.length c1), (1, .slice (BB) a.length c2), (2, .slice A3 ks.length c3), (7, ptr d), (9, v'), (10, .slice (some ⟨gl, 0, none⟩) 7 7), (12, .int .i64 ((i' : Nat) : Int))] ∧ Bk w5 gl C 9 ∧ Strs C 7 (lastOf (bwL T a i')) ∧ Disk w5 w.heap.size d (newS 7) ∧ w5.ownsRow w.heap.size 34 2 v' i' xs ∧ WL w5 w.heap.size (bwL T a i') xs ∧ Below w.heap.size w w5 :=
      ⟨i, v, xs, C, A1, A2, hi, rfl, hb5, hst, hD5, hown, hWL, bl5⟩
    rcases hex with hx | ⟨hx1, hx2⟩ | ⟨hx1, hx2, hx3⟩
    · refine E_seq ?_
      refine E_seqR ?_
      refine EL_val (R_move rfl) rfl rfl rfl ?_
      refine EL_val (R_move rfl) rfl rfl rfl ?_
      refine EL_val (R_lenSlice rfl Try.underlying22) rfl rfl rfl ?_
      first | refine EL_val (R_lss_t rfl rfl (by omega)) rfl rfl rfl ?_ | refine EL_val (R_lss_f rfl rfl (by omega)) rfl rfl rfl ?_
      refine EL_val (R_move rfl) rfl rfl rfl ?_
      first | refine EL_val (R_move rfl) rfl rfl rfl ?_ | refine EL_not rfl rfl rfl ?_
      first | refine EL_val (R_move rfl) rfl rfl rfl ?_ | refine EL_not rfl rfl rfl ?_
      first | refine EL_val (R_lenSlice rfl Try.underlying23) rfl rfl rfl ?_ | refine EL_not rfl rfl rfl ?_
      first | refine EL_val (R_lss_t rfl rfl (by omega)) rfl rfl rfl ?_ | refine EL_val (R_lss_f rfl rfl (by omega)) rfl rfl rfl ?_ | refine EL_not rfl rfl rfl ?_
      first | refine EL_val (R_pick_t rfl rfl) rfl rfl rfl ?_ | refine EL_val (R_pick_f rfl rfl) rfl rfl rfl ?_
      refine EL_val (R_move rfl) rfl rfl rfl ?_
      first | refine EL_val (R_move rfl) rfl rfl rfl ?_ | refine EL_not rfl rfl rfl ?_
      first | refine EL_val (R_lss_t rfl rfl (by omega)) rfl rfl rfl ?_ | refine EL_val (R_lss_f rfl rfl (by omega)) rfl rfl rfl ?_ | refine EL_not rfl rfl rfl ?_
      first | refine EL_val (R_pick_t rfl rfl) rfl rfl rfl ?_ | refine EL_val (R_pick_f rfl rfl) rfl rfl rfl ?_
      refine EL_nil ?_
      refine E_cond_f rfl ?_
      refine E_exit ?_
      refine thenQ_e ?_
      refine thenQ_e ?_
      refine inB_eq rfl ?_
      refine thenQ_n ?_
      exact ⟨rfl, [(0, .slice (A1) T.length c1), (1, .slice (A2) a.length c2), (2, .slice A3 ks.length c3), (7, ptr d), (9, v), (10, .slice (some ⟨gl, 0, none⟩) 7 7), (12, .int .i64 ((i : Nat) : Int))], ⟨rfl, rfl, rfl, rfl, rfl, rfl, rfl, trivial⟩, hfin⟩
    · refine E_seq ?_
      refine E_seqR ?_
      refine EL_val (R_move rfl) rfl rfl rfl ?_
      refine EL_val (R_move rfl) rfl rfl rfl ?_
      refine EL_val (R_lenSlice rfl Try.underlying22) rfl rfl rfl ?_
      first | refine EL_val (R_lss_t rfl rfl (by omega)) rfl rfl rfl ?_ | refine EL_val (R_lss_f rfl rfl (by omega)) rfl rfl rfl ?_
      refine EL_val (R_move rfl) rfl rfl rfl ?_
      first | refine EL_val (R_move rfl) rfl rfl rfl ?_ | refine EL_not rfl rfl rfl ?_
      first | refine EL_val (R_move rfl) rfl rfl rfl ?_ | refine EL_not rfl rfl rfl ?_
      first | refine EL_val (R_lenSlice rfl Try.underlying23) rfl rfl rfl ?_ | refine EL_not rfl rfl rfl ?_
      first | refine EL_val (R_lss_t rfl rfl (by omega)) rfl rfl rfl ?_ | refine EL_val (R_lss_f rfl rfl (by omega)) rfl rfl rfl ?_ | refine EL_not rfl rfl rfl ?_
      first | refine EL_val (R_pick_t rfl rfl) rfl rfl rfl ?_ | refine EL_val (R_pick_f rfl rfl) rfl rfl rfl ?_
      refine EL_val (R_move rfl) rfl rfl rfl ?_
      first | refine EL_val (R_move rfl) rfl rfl rfl ?_ | refine EL_not rfl rfl rfl ?_
      first | refine EL_val (R_lss_t rfl rfl (by omega)) rfl rfl rfl ?_ | refine EL_val (R_lss_f rfl rfl (by omega)) rfl rfl rfl ?_ | refine EL_not rfl rfl rfl ?_
      first | refine EL_val (R_pick_t rfl rfl) rfl rfl rfl ?_ | refine EL_val (R_pick_f rfl rfl) rfl rfl rfl ?_
      refine EL_nil ?_
      refine E_cond_f rfl ?_
      refine E_exit ?_
      refine thenQ_e ?_
      refine thenQ_e ?_
      refine inB_eq rfl ?_
      refine thenQ_n ?_
      exact ⟨rfl, [(0, .slice (A1) T.length c1), (1, .slice (A2) a.length c2), (2, .slice A3 ks.length c3), (7, ptr d), (9, v), (10, .slice (some ⟨gl, 0, none⟩) 7 7), (12, .int .i64 ((i : Nat) : Int))], ⟨rfl, rfl, rfl, rfl, rfl, rfl, rfl, trivial⟩, hfin⟩
    · refine E_seq ?_
      refine E_seqR ?_
      refine EL_val (R_move rfl) rfl rfl rfl ?_
      refine EL_val (R_move rfl) rfl rfl rfl ?_
      refine EL_val (R_lenSlice rfl Try.underlying22) rfl rfl rfl ?_
      first | refine EL_val (R_lss_t rfl rfl (by omega)) rfl rfl rfl ?_ | refine EL_val (R_lss_f rfl rfl (by omega)) rfl rfl rfl ?_
      refine EL_val (R_move rfl) rfl rfl rfl ?_
      first | refine EL_val (R_move rfl) rfl rfl rfl ?_ | refine EL_not rfl rfl rfl ?_
      first | refine EL_val (R_move rfl) rfl rfl rfl ?_ | refine EL_not rfl rfl rfl ?_
      first | refine EL_val (R_lenSlice rfl Try.underlying23) rfl rfl rfl ?_ | refine EL_not rfl rfl rfl ?_
      first | refine EL_val (R_lss_t rfl rfl (by omega)) rfl rfl rfl ?_ | refine EL_val (R_lss_f rfl rfl (by omega)) rfl rfl rfl ?_ | refine EL_not rfl rfl rfl ?_
      first | refine EL_val (R_pick_t rfl rfl) rfl rfl rfl ?_ | refine EL_val (R_pick_f rfl rfl) rfl rfl rfl ?_
      refine EL_val (R_move rfl) rfl rfl rfl ?_
      first | refine EL_val (R_move rfl) rfl rfl rfl ?_ | refine EL_not rfl rfl rfl ?_
      first | refine EL_val (R_lss_t rfl rfl (by omega)) rfl rfl rfl ?_ | refine EL_val (R_lss_f rfl rfl (by omega)) rfl rfl rfl ?_ | refine EL_not rfl rfl rfl ?_
      first | refine EL_val (R_pick_t rfl rfl) rfl rfl rfl ?_ | refine EL_val (R_pick_f rfl rfl) rfl rfl rfl ?_
      refine EL_nil ?_
      refine E_cond_f rfl ?_
      refine E_exit ?_
      refine thenQ_e ?_
      refine thenQ_e ?_
      refine inB_eq rfl ?_
      refine thenQ_n ?_
      exact ⟨rfl, [(0, .slice (A1) T.length c1), (1, .slice (A2) a.length c2), (2, .slice A3 ks.length c3), (7, ptr d), (9, v), (10, .slice (some ⟨gl, 0, none⟩) 7 7), (12, .int .i64 ((i : Nat) : Int))], ⟨rfl, rfl, rfl, rfl, rfl, rfl, rfl, trivial⟩, hfin⟩
  clear hst5 hb5 ho5 bl5 hD5 hz hC C
  rintro e0 w5 ⟨i, v, xs, C, AA, BB, hi, rfl, hb5, hst, hD5, hown, hWL, bl5⟩
  have hxl := hWL.len
  rw [bwL_length] at hxl
  obtain ⟨hgl1, hgl2⟩ := bw_good T a i
  obtain ⟨f1, f2, f3, f4, f5, f6⟩ := bar_facts hgl1 hgl2
  obtain ⟨Av, cv, rfl⟩ := own_slice hown
  obtain ⟨g', C', ov', hD'⟩ := hD5
  have hsz5 := bl5.size
  have hW : Writes w.heap.size w5 Av (bwL T a i) := hWL.writes (c := cv) (by rw [bwL_length]; exact hown) (by rw [bwL_length]; omega)
  have hput := put_ok hD' (by omega) hW cv (fun q _ => by rw [bwL_length]; simp [newS]; omega)
  rw [bwL_length] at hput
  refine E_seq ?_
  refine E_seqR ?_
  refine EL_val (R_move rfl) rfl rfl rfl ?_
  refine EL_val (R_move rfl) rfl rfl rfl ?_
  refine EL_step rfl ?_
  refine EO_call K.bd10 rfl rfl (hput) ?_
  rintro _ w6 ⟨rfl, ⟨g6, C6, ov6, h6⟩, hm6⟩
  first | refine EL_val (R_neq_t rfl rfl (fun h => h f1)) rfl rfl rfl ?_ | refine EL_val (R_neq_f rfl rfl (fun h => h f1)) rfl rfl rfl ?_
  refine EL_val (R_move rfl) rfl rfl rfl ?_
  first | refine EL_val (R_move rfl) rfl rfl rfl ?_ | refine EL_not rfl rfl rfl ?_
  refine EL_step rfl ?_
  refine EO_call K.bd14 rfl rfl (barrier_ok h6) ?_
  rintro _ w7 ⟨rfl, h7, hm7⟩
  first | refine EL_val (R_neq_t rfl rfl (fun h => h f2)) rfl rfl rfl ?_ | refine EL_val (R_neq_f rfl rfl (fun h => h f2)) rfl rfl rfl ?_
  first | refine EL_val (R_pick_t rfl rfl) rfl rfl rfl ?_ | refine EL_val (R_pick_f rfl rfl) rfl rfl rfl ?_
  refine EL_nil ?_
  refine E_cond_f rfl ?_
  refine E_skip ?_
  refine thenQ_n ?_
  refine E_seq ?_
  refine E_seqR ?_
  refine EL_val (R_assign rfl) rfl rfl rfl ?_
  refine EL_nil ?_
  refine E_block ?_
  have hb7 : Bk w7 gl C 9 := hm7.bk (hm6.bk hb5 (by decide)) (by decide)
  have bl7 := bl_dm (bl_dm bl5 (Nat.le_refl _) hm6) (Nat.le_refl _) hm7
  have hD7 : Disk w7 w.heap.size d (barS (bwL T a i)) := h7
  clear h7
  refine E_loop (fun m' e' w' => ∃ (n : Nat), n ≤ 7 ∧ m' = 7 - n ∧ e' = [(2, .slice A3 ks.length c3), (7, ptr d), (10, .slice (some ⟨gl, 0, none⟩) 7 7), (14, .int .i64 ((n : Nat) : Int))] ∧ w7 = w') 7 [(2, .slice A3 ks.length c3), (7, ptr d), (10, .slice (some ⟨gl, 0, none⟩) 7 7), (14, .int .i64 ((0 : Nat) : Int))] ⟨rfl, rfl, rfl, rfl, trivial⟩ ⟨0, by omega, rfl, rfl, rfl⟩ ?_
  rintro m' e w' ⟨n, hn, rfl, rfl, rfl⟩
  obtain ⟨g7, C7, ov7, hD7'⟩ := hD7
  by_cases hn7 : n < 7
  · have hop : openS (barS (bwL T a i)) n = 0 := by
      simp only [openS, f4]
      rw [if_neg (by omega), Int.toNat_natCast, (f6 n hn7).1]
      rfl
    refine E_seq ?_
    refine E_seqR ?_
    refine EL_val (R_move rfl) rfl rfl rfl ?_
    first | refine EL_val (R_lss_t rfl rfl (by omega)) rfl rfl rfl ?_ | refine EL_val (R_lss_f rfl rfl (by omega)) rfl rfl rfl ?_
    refine EL_nil ?_
    refine E_cond_t rfl ?_
    refine E_skip ?_
    refine thenQ_n ?_
    refine E_seq ?_
    refine E_block ?_
    refine E_seqR ?_
    refine EL_val (R_move rfl) rfl rfl rfl ?_
    refine EL_val (R_move rfl) rfl rfl rfl ?_
    refine EL_step rfl ?_
    refine EO_call K.bd13 rfl rfl (open_ok hD7' n) ?_
    rintro _ _ ⟨rfl, rfl⟩
    first | refine EL_val (R_neq_t rfl rfl ((by rw [hop]; decide))) rfl rfl rfl ?_ | refine EL_val (R_neq_f rfl rfl ((by rw [hop]; decide))) rfl rfl rfl ?_
    refine EL_nil ?_
    refine E_cond_f rfl ?_
    refine E_skip ?_
    refine inB_n ?_
    refine thenQ_n ?_
    refine E_region ?_
    refine EL_val (R_move rfl) rfl rfl rfl ?_
    first | refine EL_val (R_inc rfl (by omega)) rfl rfl rfl ?_ | refine EL_val (R_add_in rfl rfl (by omega) (by omega)) rfl rfl rfl ?_
    refine EL_val (R_assign rfl) rfl rfl rfl ?_
    refine EL_nil ?_
    refine thenQ_n ?_
    exact ⟨rfl, 7 - (n + 1), [(2, .slice A3 ks.length c3), (7, ptr d), (10, .slice (some ⟨gl, 0, none⟩) 7 7), (14, .int .i64 ((n + 1 : Nat) : Int))], by omega, ⟨rfl, rfl, rfl, rfl, trivial⟩, n + 1, by omega, rfl, rfl, rfl⟩
  have hn' : n = 7 := by omega
  subst hn'
  obtain ⟨r1, r2, r3⟩ := restart_bar hgl1 hgl2 ks
  refine E_seq ?_
  refine E_seqR ?_
  refine EL_val (R_move rfl) rfl rfl rfl ?_
  first | refine EL_val (R_lss_t rfl rfl (by omega)) rfl rfl rfl ?_ | refine EL_val (R_lss_f rfl rfl (by omega)) rfl rfl rfl ?_
  refine EL_nil ?_
  refine E_cond_f rfl ?_
  refine E_exit ?_
  refine thenQ_e ?_
  refine thenQ_e ?_
  refine inB_eq rfl ?_
  refine thenQ_n ?_
  refine E_seqR ?_
  refine EL_val (R_move rfl) rfl rfl rfl ?_
  refine EL_val (R_move rfl) rfl rfl rfl ?_
  refine EL_step rfl ?_
  refine EO_call K.bd11 rfl rfl (restart_ok hD7' ((hk.below bl7).off (Nat.le_refl _))) ?_
  rintro _ w8 ⟨h8, hm8⟩
  refine EL_nil ?_
  refine E_seq ?_
  refine E_seqR ?_
  refine EL_val (R_assign rfl) rfl rfl rfl ?_
  refine EL_nil ?_
  refine E_block ?_
  have hb8 : Bk w8 gl C 9 := hm8.bk hb7 (by decide)
  have bl8 := bl_dm bl7 (Nat.le_refl _) hm8
  refine E_loop (fun m' e' w' => ∃ (n : Nat), n ≤ 7 ∧ m' = 7 - n ∧ e' = [(7, ptr d), (10, .slice (some ⟨gl, 0, none⟩) 7 7), (15, .int .i64 ((n : Nat) : Int))] ∧ Disk w' w.heap.size d (restartS (barS (bwL T a i)) ks) ∧ Bk w' gl C 9 ∧ Below w.heap.size w w') 7 [(7, ptr d), (10, .slice (some ⟨gl, 0, none⟩) 7 7), (15, .int .i64 ((0 : Nat) : Int))] ⟨rfl, rfl, rfl, trivial⟩ ⟨0, by omega, rfl, rfl, h8, hb8, bl8⟩ ?_
  rintro m' e w9 ⟨n, hn, rfl, rfl, ⟨g9, C9, ov9, hD9⟩, hb9, bl9⟩
  by_cases hn7 : n < 7
  · refine E_seq ?_
    refine E_seqR ?_
    refine EL_val (R_move rfl) rfl rfl rfl ?_
    first | refine EL_val (R_lss_t rfl rfl (by omega)) rfl rfl rfl ?_ | refine EL_val (R_lss_f rfl rfl (by omega)) rfl rfl rfl ?_
    refine EL_nil ?_
    refine E_cond_t rfl ?_
    refine E_skip ?_
    refine thenQ_n ?_
    refine E_seq ?_
    refine E_block ?_
    refine E_seqR ?_
    refine EL_val (R_move rfl) rfl rfl rfl ?_
    refine EL_val (R_move rfl) rfl rfl rfl ?_
    refine EL_step rfl ?_
    refine EO_call K.bd12 rfl rfl (get_in hD9 r1 n (by omega)) ?_
    rintro _ w10 ⟨g10, cap10, cur10, rfl, hg10, hbk10, hc10, hm10⟩
    refine EL_val (R_move rfl) rfl rfl rfl ?_
    refine EL_val (R_extract rfl rfl) rfl rfl rfl ?_
    refine EL_val (R_extract rfl rfl) rfl rfl rfl ?_
    refine EL_val (R_assign rfl) rfl rfl rfl ?_
    refine EL_val (R_assign rfl) rfl rfl rfl ?_
    refine EL_nil ?_
    refine E_seqD (fun w' => [(1000, fun w'' => w'' = w')]) 11 K.mix rfl ?_
    intro w29d hm29d hh29d
    (have hc11 := hm29d.cells hc10 (fun h => h); have hlen := hD9.now_len (i := n) (by omega); have hb11 := hm29d.bk' (hm10.bk' hb9))
    refine EA_pure 0 rfl (fun _ => R_move rfl) (by kernel_rfl) rfl rfl rfl ?_
    first | refine EA_pure 1 rfl (fun _ => R_neq_t rfl rfl (by omega)) (by kernel_rfl) rfl rfl rfl ?_ | refine EA_pure 1 rfl (fun _ => R_neq_f rfl rfl (by omega)) (by kernel_rfl) rfl rfl rfl ?_
    refine EA_pure 2 rfl (fun _ => R_move rfl) (by kernel_rfl) rfl rfl rfl ?_
    first | refine EA_pure 3 rfl (fun _ => R_move rfl) (by kernel_rfl) rfl rfl rfl ?_ | refine EA_not 3 rfl (by kernel_rfl) rfl rfl rfl ?_
    refine EA_still 4 [1000] rfl (R_bytesStr hlen (by have := src_cells hc11; rwa [hlen] at this) rfl Try.underlying23 Try.underlying5 Try.underlying9) rfl (by kernel_rfl) (by kernel_rfl) rfl rfl rfl ?_
    first | refine EA_pure 5 rfl (fun _ => R_move rfl) (by kernel_rfl) rfl rfl rfl ?_ | refine EA_not 5 rfl (by kernel_rfl) rfl rfl rfl ?_
    first | refine EA_pure 6 rfl (fun _ => R_move rfl) (by kernel_rfl) rfl rfl rfl ?_ | refine EA_not 6 rfl (by kernel_rfl) rfl rfl rfl ?_
    first | refine EA_pure 7 rfl (fun _ => R_indexAddr rfl rfl Try.underlying31 K.sz9 rfl (by omega)) (by kernel_rfl) rfl rfl rfl ?_ | refine EA_not 7 rfl (by kernel_rfl) rfl rfl rfl ?_
    refine EA_still 8 [1000] rfl (R_load rfl K.ag9 ((by rw [Nat.mul_one, Nat.zero_add]; exact hb11.cell (hst.2 n hn7)))) rfl (by kernel_rfl) (by kernel_rfl) rfl rfl rfl ?_
    first | refine EA_pure 9 rfl (fun _ => R_strNeq_t rfl rfl (fun h => h (r3 n hn7))) (by kernel_rfl) rfl rfl rfl ?_ | refine EA_pure 9 rfl (fun _ => R_strNeq_f rfl rfl (fun h => h (r3 n hn7))) (by kernel_rfl) rfl rfl rfl ?_
    first | refine EA_pure 10 rfl (fun _ => R_pick_t rfl rfl) (by kernel_rfl) rfl rfl rfl ?_ | refine EA_pure 10 rfl (fun _ => R_pick_f rfl rfl) (by kernel_rfl) rfl rfl rfl ?_
    refine EA_done (by kernel_rfl) ⟨fun _ => rfl, trivial⟩ ?_
    refine E_cond_f rfl ?_
    refine E_skip ?_
    refine inB_n ?_
    refine thenQ_n ?_
    refine E_region ?_
    refine EL_val (R_move rfl) rfl rfl rfl ?_
    first | refine EL_val (R_inc rfl (by omega)) rfl rfl rfl ?_ | refine EL_val (R_add_in rfl rfl (by omega) (by omega)) rfl rfl rfl ?_
    refine EL_val (R_assign rfl) rfl rfl rfl ?_
    refine EL_nil ?_
    refine thenQ_n ?_
    exact ⟨rfl, 7 - (n + 1), [(7, ptr d), (10, .slice (some ⟨gl, 0, none⟩) 7 7), (15, .int .i64 ((n + 1 : Nat) : Int))], by omega, ⟨rfl, rfl, rfl, trivial⟩, n + 1, by omega, rfl, rfl, Disk.no ⟨g9, C9, ov9, hD9⟩ (hm10.trans hm29d), hb11, bl_no bl9 (Nat.le_refl _) (hm10.trans hm29d)⟩
  have hn' : n = 7 := by omega
  subst hn'
  refine E_seq ?_
  refine E_seqR ?_
  refine EL_val (R_move rfl) rfl rfl rfl ?_
  first | refine EL_val (R_lss_t rfl rfl (by omega)) rfl rfl rfl ?_ | refine EL_val (R_lss_f rfl rfl (by omega)) rfl rfl rfl ?_
  refine EL_nil ?_
  refine E_cond_f rfl ?_
  refine E_exit ?_
  refine thenQ_e ?_
  refine thenQ_e ?_
  refine inB_eq rfl ?_
  refine thenQ_n ?_
  refine E_seqR ?_
  refine EL_val (R_assign rfl) rfl rfl rfl ?_
  refine EL_nil ?_
  refine E_ret ?_
  refine ret1 (.inr rfl) rfl rfl ?_
  exact ⟨rfl, bl9⟩
theorem barriers_row {H : Type} {enc : TypeId × Value → H} {W : World} {base : Nat} {v0 v1 v2 : Value} {d0 d1 d2 : DataW H} {p0 p1 p2 : List MemPlace} (k0 : Value.okWide Try.prog W .any base 22 v0) (h0 : DataW.Trod enc Try.prog W 0 (fun _ => true) true 22 v0 d0 p0)
    (k1 : Value.okWide Try.prog W .any base 23 v1) (h1 : DataW.Trod enc Try.prog W 0 (fun _ => true) true 23 v1 d1 p1) (k2 : Value.okWide Try.prog W .any base 24 v2) (h2 : DataW.Trod enc Try.prog W 0 (fun _ => true) true 24 v2 d2 p2) :
    Ret Try.prog 4 [v0, v1, v2] W fun r w' => r = .bool true ∧ Below W.heap.size W w' := by
  obtain ⟨A0, n0, c0, rfl⟩ := okWide_slice Try.underlying22 k0
  obtain ⟨A1, n1, c1, rfl⟩ := okWide_slice Try.underlying23 k1
  obtain ⟨A2, n2, c2, rfl⟩ := okWide_slice Try.underlying24 k2
  obtain ⟨f0, h0⟩ := h0
  obtain ⟨f1, h1⟩ := h1
  obtain ⟨f2, h2⟩ := h2
  obtain ⟨B0, T, c0', e0, hT⟩ := bytess_open h0
  obtain ⟨B1, a, c1', e1, ha⟩ := bytes_open h1
  obtain ⟨B2, ks, c2', e2, hk⟩ := ints_open h2
  rw [e0, e1, e2]
  exact barriers_walk hT ha hk
theorem diskBarriers_own : ownKnob Try.prog.godebug = none := by kernel_rfl
theorem diskBarriers_laidOut : laidOutB Try.prog = true := by kernel_rfl
set_option maxRecDepth 100000 in
theorem diskBarriers_lifted (os : Os) (started : os.Started) (H : Type) (enc : TypeId × Value → H) :
    ReturnsInHanded {} Try.checked os 4 .any (Rows.diskBarriersSpec.pre6 enc Try.prog Try.f4 Rows.diskBarriersRow.domain false) (Rows.diskBarriersSpec.post enc Try.prog Try.f4 false true false false) := by
  refine returnsInHanded_of_change (C := Try.checked) diskBarriers_own started (by kernel_rfl) Try.func4
    (ChangeSpec.witness6 (enc := enc) (C := Try.checked) false ⟨#[], #[.slice none 0 0, .slice none 0 0, .slice none 0 0], []⟩ 8 (by kernel_rfl) (by kernel_rfl) (by kernel_rfl) (by kernel_rfl)) ?_
  intro W base args ds gs before hval0 hW hcnd _
  have hval : ∀ (j : Nat) t v, Try.f4.params[j]? = some t → args[j]? = some v → Value.okWide Try.prog W .any base t v := hval0
  have hW' := hW
  obtain ⟨p, q, hA0, hV, rfl, hfz, hnd⟩ := hW
  have hA : DataW.TrodAll enc Try.prog W 0 (fun _ => true) true Try.f4.params.toList args.toList ds p := hA0
  rw [Try.params4] at hA hval
  obtain ⟨v0, vs0, d0, ds0, p0, q0, hargs, rfl, rfl, h0, r0⟩ := trodAll_cons hA
  obtain ⟨v1, vs1, d1, ds1, p1, q1, rfl, rfl, rfl, h1, r1⟩ := trodAll_cons r0
  obtain ⟨v2, vs2, d2, ds2, p2, q2, rfl, rfl, rfl, h2, r2⟩ := trodAll_cons r1
  obtain ⟨rfl, rfl, rfl⟩ := trodAll_nil r2
  obtain rfl : args = #[v0, v1, v2] := by cases args; simp_all
  obtain ⟨rfl, rfl⟩ := trodVars_none hV
  have lt0 : ∀ x ∈ p0, x.block < W.heap.size := by obtain ⟨m, hm⟩ := h0; exact DataW.trod_lt m _ _ _ hm
  have lt1 : ∀ x ∈ p1, x.block < W.heap.size := by obtain ⟨m, hm⟩ := h1; exact DataW.trod_lt m _ _ _ hm
  have lt2 : ∀ x ∈ p2, x.block < W.heap.size := by obtain ⟨m, hm⟩ := h2; exact DataW.trod_lt m _ _ _ hm
  clear hA0 hval0
  refine Calls.mono (barriers_row (hval 0 22 v0 rfl rfl) h0 (hval 1 23 v1 rfl rfl) h1 (hval 2 24 v2 rfl rfl) h2) ?_
  rintro x W' ⟨v, rfl, rfl, bel⟩
  exact ⟨_, rfl, _, _, _, [], _, [], hW', trodAll_mk1 (shut_bool Try.underlying4 _), (trodAll_cons_mk (Below.trod diskBarriers_laidOut (by kernel_rfl) (of_decide_eq_true (by kernel_rfl)) h0 bel lt0) (trodAll_cons_mk (Below.trod diskBarriers_laidOut (by kernel_rfl) (of_decide_eq_true (by kernel_rfl)) h1 bel lt1) (trodAll_cons_mk (Below.trod diskBarriers_laidOut (by kernel_rfl) (of_decide_eq_true (by kernel_rfl)) h2 bel lt2) trodAll_mk0))), rfl, bel.frame _, fun h => by cases h⟩
/-- THE STATEMENT -/
theorem diskBarriers_holds : Rows.DiskBarriersSaid :=
  OpenClaim.holds_of_wide 4 Try.f4 rfl rfl rfl rfl rfl rfl rfl ⟨rfl, rfl, rfl, rfl, rfl⟩ rfl rfl rfl rfl rfl (by kernel_rfl) Try.func4 (by kernel_rfl)
    (of_decide_eq_true (by kernel_rfl)) (by unfold Func.isWrapper; first | (rw [if_pos (by decide +kernel)]; kernel_rfl) | (rw [if_neg (by decide +kernel)]; exact ⟨rfl, rfl⟩))
    (fun os started H enc _ => diskBarriers_lifted os started H enc)
#print axioms diskBarriers_holds
end Go.Proofs.Ytphnhhcefoghpaa
