/- The law's own simplest facts: a disk of two blocks. -/
import Derived.Test.YtphnhhcefoghpaaDiskF
set_option linter.unusedVariables false
set_option linter.unusedSimpArgs false
set_option maxRecDepth 100000
namespace Go.Proofs.Ytphnhhcefoghpaa
open Go.EW Go.RowKit

theorem madeCells_one (z : Value) (n : Nat) : madeCells #[z] n = Array.replicate n z := by
  apply Array.ext
  · simp [madeCells]
  · intro i h1 h2
    simp [madeCells, Nat.mod_one]
theorem foot_not {B : Nat} {w : World} {g : Nat} {C : Array Value} {t : TypeId} (h : Bk w g C t) (ht : ¬ (t = 62 ∨ t = 67 ∨ t = 64)) : ¬ foot B w g := fun ⟨_, C', t', hb', ht'⟩ => ht (by rw [(h.inj hb').2]; exact ht')
theorem BytesOff.bk {B : Nat} {w : World} {g : Nat} {l : List UInt8} (h : Bk w g (bv l) 5) : BytesOff B w (some ⟨g, 0, none⟩) l := fun _ =>
  ⟨g, 0, rfl, h.cells 0 _ fun j v hv => by rw [Nat.zero_add]; exact hv, foot_not h (by decide)⟩
/-- one write of 64 bytes, as it is built in place -/
theorem Writes.one {B : Nat} {w : World} {g g' : Nat} {a : Int} {l : List UInt8} {c : Nat} (h : Bk w g #[.int .i64 a, .slice (some ⟨g', 0, none⟩) l.length c] 34) (h' : Bk w g' (bv l) 5) : Writes B w (some ⟨g, 0, none⟩) [(a, l)] := by
  refine ⟨by simp, fun _ => ⟨g, 0, rfl, foot_not h (by decide), fun k hk => ?_⟩⟩
  have hk0 : k = 0 := by simpa using hk
  subst hk0
  exact ⟨some ⟨g', 0, none⟩, c, h.cell rfl, h.cell rfl, BytesOff.bk h'⟩
/-- a slice of 64 bytes in new memory, opened -/
theorem Fresh64.form {w w' : World} {l : List UInt8} {v : Value} (h : Fresh64 w l v w') : ∃ g cap cur, v = .slice (some ⟨g, 0, none⟩) 64 cap ∧ w.heap.size ≤ g ∧ Bk w' g cur 5 ∧ Cells w' g 0 (bv l) := by
  obtain ⟨g, cap, cur, hv, hb, hbk, _, _, _, ht⟩ := own_form h.1 (by omega)
  refine ⟨g, cap, cur, hv, hb, hbk, hbk.cells 0 _ fun j u hu => ?_⟩
  rw [Nat.zero_add]
  have hu' : (bv l).toList[j]? = some u := by simpa using hu
  rw [← ht, List.getElem?_take] at hu'
  split at hu'
  · simpa using hu'
  · cases hu'
theorem get_in {w : World} {B d g : Nat} {C : Array Value} {ov : Nat → Value} {S : DS} (h : DiskAt w B d g C ov S) (ho : S.off = false) (i : Nat) (hi : i < S.n) :
    Ret Try.prog 12 [ptr d, .int .i64 (i : Int)] w fun v w' => ∃ g cap cur, v = .tuple #[.slice (some ⟨g, 0, none⟩) 64 cap, .int .i64 0] ∧ w.heap.size ≤ g ∧ Bk w' g cur 5 ∧ Cells w' g 0 (bv (nowS S i)) ∧ Mods No w w' := by
  refine (get_ok h (i : Int)).mono fun v w' hp => ?_
  simp only [getP, ho, Bool.false_eq_true, if_false, if_neg (show ¬ ((i : Int) < 0 ∨ (S.n : Int) ≤ i) by omega), Int.toNat_natCast] at hp
  obtain ⟨u, rfl, hf⟩ := hp
  obtain ⟨g, cap, cur, rfl, h1, h2, h3⟩ := hf.form
  exact ⟨g, cap, cur, rfl, h1, h2, h3, hf.2⟩
def oneS (l : List UInt8) : DS := { newS 2 with opn := fup (fun _ => []) 1 [l] }
theorem put_one {l : List UInt8} (hl : l.length = 64) : putS (newS 2) [(1, l)] = (oneS l, 0) := by
  simp [putS, newS, badLen, badAt, hl, putL, spendS, oneS]
theorem awake_ok {w : World} : Ret Try.prog 9 [] w fun v w' => v = .bool true ∧ Mods No w w' := by
  obtain ⟨l, hl⟩ : ∃ l : List UInt8, l = 7 :: List.replicate 63 0 := ⟨_, rfl⟩
  have h64 : l.length = 64 := by rw [hl]; rfl
  have hlb : (madeCells #[Value.int .u8 0] 64).setIfInBounds 0 (.int .u8 7) = bv l := by
    rw [madeCells_one, hl]; rfl
  have hnow : nowS (oneS l) 1 = l := rfl
  have hopen : openS (oneS l) 1 = 1 := rfl
  refine Ret.enter Try.func9 rfl Try.ntmps9 rfl ?_
  simp only [argEnv, Nat.reduceAdd]
  refine E_seqR ?_
  refine EL_val (R_assign rfl) rfl rfl rfl ?_
  refine EL_nil ?_
  refine E_seqR ?_
  refine EL_step rfl ?_
  refine EO_call K.bd8 rfl rfl ((new_ok (n := 2) (B := w.heap.size) (by omega) (by omega) (Nat.le_refl _))) ?_
  rintro _ w1 ⟨d, rfl, ⟨g, C, ov, h1⟩, hm1⟩
  refine EL_val (R_move rfl) rfl rfl rfl ?_
  refine EL_val (R_extract rfl rfl) rfl rfl rfl ?_
  refine EL_val (R_extract rfl rfl) rfl rfl rfl ?_
  refine EL_val (R_assign rfl) rfl rfl rfl ?_
  refine EL_val (R_assign rfl) rfl rfl rfl ?_
  refine EL_nil ?_
  refine E_seq ?_
  refine E_seqR ?_
  refine EL_val (R_move rfl) rfl rfl rfl ?_
  first | refine EL_val (R_neq_t rfl rfl (by omega)) rfl rfl rfl ?_ | refine EL_val (R_neq_f rfl rfl (by omega)) rfl rfl rfl ?_
  refine EL_val (R_move rfl) rfl rfl rfl ?_
  first | refine EL_val (R_move rfl) rfl rfl rfl ?_ | refine EL_not rfl rfl rfl ?_
  first | refine EL_val (R_eqlPtrNil rfl Try.underlying25) rfl rfl rfl ?_ | refine EL_not rfl rfl rfl ?_
  first | refine EL_val (R_pick_t rfl rfl) rfl rfl rfl ?_ | refine EL_val (R_pick_f rfl rfl) rfl rfl rfl ?_
  refine EL_nil ?_
  refine E_cond_f rfl ?_
  refine E_skip ?_
  refine thenQ_n ?_
  refine E_seqR ?_
  refine EL_step rfl ?_
  refine EO_makeSlice 64 64 rfl rfl Try.underlying23 K.zr5 K.sz5 K.by5 (by first | rfl | omega) (by first | rfl | omega) (by omega) (by omega) (by omega) rfl ?_
  intro w2 hn2
  refine EL_val (R_assign rfl) rfl rfl rfl ?_
  refine EL_nil ?_
  refine E_seqR ?_
  refine EL_val (R_move rfl) rfl rfl rfl ?_
  refine EL_val (R_indexAddr rfl rfl Try.underlying23 K.sz5 (m := 0) rfl (by omega)) rfl rfl rfl ?_
  refine EL_step rfl ?_
  refine EO_store1 rfl rfl K.sz5 rfl hn2.bk (by simp [size_madeCells]) ?_
  intro w3 hu3
  (have hb3 : Bk w3 w1.heap.size (bv l) 5 := hlb ▸ hu3.bk; have h3 := (h1.no hn2.mods).mods hu3.mods (fun i hf hi => by subst hi; exact foot_not hn2.bk (by decide) hf); have hs3 := hu3.size; have hs2 := hn2.size; have hs1 := hm1.size)
  refine EL_nil ?_
  refine E_seqR ?_
  refine EL_val (R_move rfl) rfl rfl rfl ?_
  refine EL_val (R_move rfl) rfl rfl rfl ?_
  refine EL_val (R_build (cells := #[.int .i64 1, .slice (some ⟨w1.heap.size, 0, none⟩) 64 64]) K.zr34 K.pl34 rfl rfl) rfl rfl rfl ?_
  refine EL_step rfl ?_
  refine EO_buildSlice Try.underlying40 K.zr34 K.sz34 rfl rfl rfl (fill_whole rfl (by rw [size_madeCells])) rfl ?_
  intro w4 hn4
  (have hb4 : Bk w4 w3.heap.size #[.int .i64 1, .slice (some ⟨w1.heap.size, 0, none⟩) l.length 64] 34 := by rw [h64]; exact hn4.bk)
  refine EL_step rfl ?_
  refine EO_call K.bd10 rfl rfl ((by have := put_ok (h3.no hn4.mods) (by have := hn4.size; omega) (Writes.one hb4 (hn4.mods.bk' hb3)) 1 (by simp [newS]); rw [put_one h64] at this; exact this)) ?_
  rintro _ w5 ⟨rfl, ⟨g5, C5, ov5, h5⟩, hm5⟩
  refine EL_val (R_assign rfl) rfl rfl rfl ?_
  refine EL_nil ?_
  refine E_seqR ?_
  refine EL_val (R_move rfl) rfl rfl rfl ?_
  refine EL_step rfl ?_
  refine EO_call K.bd12 rfl rfl (get_in h5 rfl 1 (by show 1 < 2; omega)) ?_
  rintro _ w6 ⟨g6, cap6, cur6, rfl, hg6, hb6, hc6, hm6⟩
  refine EL_val (R_move rfl) rfl rfl rfl ?_
  refine EL_val (R_extract rfl rfl) rfl rfl rfl ?_
  refine EL_val (R_extract rfl rfl) rfl rfl rfl ?_
  refine EL_val (R_assign rfl) rfl rfl rfl ?_
  refine EL_val (R_assign rfl) rfl rfl rfl ?_
  refine EL_nil ?_
  refine E_seqR ?_
  refine EL_val (R_move rfl) rfl rfl rfl ?_
  first | refine EL_val (R_eql_t rfl rfl (by omega)) rfl rfl rfl ?_ | refine EL_val (R_eql_f rfl rfl (by omega)) rfl rfl rfl ?_
  refine EL_val (R_move rfl) rfl rfl rfl ?_
  first | refine EL_val (R_move rfl) rfl rfl rfl ?_ | refine EL_not rfl rfl rfl ?_
  first | refine EL_val (R_eql_t rfl rfl (by omega)) rfl rfl rfl ?_ | refine EL_val (R_eql_f rfl rfl (by omega)) rfl rfl rfl ?_ | refine EL_not rfl rfl rfl ?_
  first | refine EL_val (R_pick_t rfl rfl) rfl rfl rfl ?_ | refine EL_val (R_pick_f rfl rfl) rfl rfl rfl ?_
  refine EL_val (R_move rfl) rfl rfl rfl ?_
  first | refine EL_val (R_move rfl) rfl rfl rfl ?_ | refine EL_not rfl rfl rfl ?_
  first | refine EL_val (R_lenSlice rfl Try.underlying23) rfl rfl rfl ?_ | refine EL_not rfl rfl rfl ?_
  first | refine EL_val (R_eql_t rfl rfl (by omega)) rfl rfl rfl ?_ | refine EL_val (R_eql_f rfl rfl (by omega)) rfl rfl rfl ?_ | refine EL_not rfl rfl rfl ?_
  first | refine EL_val (R_pick_t rfl rfl) rfl rfl rfl ?_ | refine EL_val (R_pick_f rfl rfl) rfl rfl rfl ?_
  refine EL_val (R_move rfl) rfl rfl rfl ?_
  first | refine EL_val (R_move rfl) rfl rfl rfl ?_ | refine EL_not rfl rfl rfl ?_
  first | refine EL_val (R_indexAddr rfl rfl Try.underlying23 K.sz5 (m := 0) rfl (by omega)) rfl rfl rfl ?_ | refine EL_not rfl rfl rfl ?_
  refine EL_val (R_load rfl K.ag5 (hc6 0 (.int .u8 7) (by rw [hnow, hl]; rfl))) rfl rfl rfl ?_
  first | refine EL_val (R_eql_t rfl rfl (rfl)) rfl rfl rfl ?_ | refine EL_val (R_eql_f rfl rfl (rfl)) rfl rfl rfl ?_
  first | refine EL_val (R_pick_t rfl rfl) rfl rfl rfl ?_ | refine EL_val (R_pick_f rfl rfl) rfl rfl rfl ?_
  refine EL_val (R_move rfl) rfl rfl rfl ?_
  first | refine EL_val (R_move rfl) rfl rfl rfl ?_ | refine EL_not rfl rfl rfl ?_
  refine EL_step rfl ?_
  refine EO_call K.bd13 rfl rfl (open_ok (h5.no hm6) 1) ?_
  rintro _ _ ⟨rfl, rfl⟩
  first | refine EL_val (R_eql_t rfl rfl (hopen)) rfl rfl rfl ?_ | refine EL_val (R_eql_f rfl rfl (hopen)) rfl rfl rfl ?_
  first | refine EL_val (R_pick_t rfl rfl) rfl rfl rfl ?_ | refine EL_val (R_pick_f rfl rfl) rfl rfl rfl ?_
  refine EL_val (R_move rfl) rfl rfl rfl ?_
  first | refine EL_val (R_move rfl) rfl rfl rfl ?_ | refine EL_not rfl rfl rfl ?_
  refine EL_step rfl ?_
  refine EO_call K.bd21 rfl rfl (blocks_ok (h5.no hm6)) ?_
  rintro _ _ ⟨rfl, rfl⟩
  first | refine EL_val (R_eql_t rfl rfl (rfl)) rfl rfl rfl ?_ | refine EL_val (R_eql_f rfl rfl (rfl)) rfl rfl rfl ?_
  first | refine EL_val (R_pick_t rfl rfl) rfl rfl rfl ?_ | refine EL_val (R_pick_f rfl rfl) rfl rfl rfl ?_
  refine EL_val (R_assign rfl) rfl rfl rfl ?_
  refine EL_nil ?_
  refine E_ret ?_
  refine ret1 (.inr rfl) rfl rfl ?_
  refine ⟨rfl, ?_⟩
  have b1 := bl_no (Below.refl w.heap.size w) (Nat.le_refl _) hm1
  have b2 := bl_no b1 (Nat.le_refl _) hn2.mods
  have b3 := bl_upd b2 (Nat.le_refl _) hu3 (by omega)
  have b4 := bl_no b3 (Nat.le_refl _) hn4.mods
  have b5 := bl_dm b4 (Nat.le_refl _) hm5
  exact Mods.no_of_below (bl_no b5 (Nat.le_refl _) hm6)
end Go.Proofs.Ytphnhhcefoghpaa
