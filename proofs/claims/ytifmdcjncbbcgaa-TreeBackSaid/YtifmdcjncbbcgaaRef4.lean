/- The document's blocks and heads (packages drydockref04, 08). -/
import Derived.Test.YtifmdcjncbbcgaaRef3
set_option linter.unusedVariables false
set_option linter.unusedSimpArgs false
set_option maxRecDepth 100000
namespace Go.Proofs.Ytifmdcjncbbcgaa
open Go.EW Go.RowKit

theorem refput_ok {w : World} {B : Nat} {v : Value} {l : List UInt8} {n : Int} {size : Nat} (ho : OB B w v l) (hB : B ≤ w.heap.size) (hn : 0 ≤ n) (hn2 : n < 18446744073709551616) (hs : size ≤ 4) (hl : l.length ≤ 1000) :
    Ret Try.prog 41 [v, .int .i64 n, .int .i64 (size : Int)] w fun v' w' => OB B w' v' (l ++ leB n.toNat size) ∧ TM U8 B w w' := by
  have hu : ∀ x : Int, 0 ≤ x → x < 18446744073709551616 → IntKind.u64.wrap x = x := fun x h1 h2 => by simp [IntKind.wrap, IntKind.bits, IntKind.signed]; omega
  refine Ret.enter Try.func41 rfl Try.ntmps41 rfl ?_
  simp only [argEnv, Nat.reduceAdd]
  refine E_seqR ?_
  refine EL_val (R_assign rfl) rfl rfl rfl ?_
  refine EL_nil ?_
  refine E_seq ?_
  refine E_seqR ?_
  refine EL_val (R_assign rfl) rfl rfl rfl ?_
  refine EL_nil ?_
  refine E_block ?_
  refine E_loop (fun m' e' w' => ∃ i v, i ≤ size ∧ m' = size - i ∧ e' = [(0, v), (1, .int .i64 n), (2, .int .i64 (size : Int)), (7, .int .i64 ((i : Nat) : Int))] ∧ OB B w' v (l ++ leB n.toNat i) ∧ TM U8 B w w') size [(0, v), (1, .int .i64 n), (2, .int .i64 (size : Int)), (7, .int .i64 ((0 : Nat) : Int))] ⟨rfl, rfl, rfl, rfl, trivial⟩ ⟨0, v, by omega, by omega, rfl, by simpa [leB] using ho, TM.refl⟩ ?_
  clear ho
  rintro m' e w1 ⟨i, v, hi, rfl, rfl, ho, hm⟩
  have hs1 := hm.size
  by_cases hlt : i < size
  · have hp : n.fdiv (2 ^ (8 * (i : Int)).toNat) = ((n.toNat / 2 ^ (8 * i) : Nat) : Int) := by
      rw [show (8 * (i : Int)).toNat = 8 * i from by omega, Int.fdiv_eq_ediv_of_nonneg _ (by exact_mod_cast Nat.zero_le _)]
      rw [show n = ((n.toNat : Nat) : Int) by omega]
      exact_mod_cast rfl
    have hw : IntKind.u8.wrap ((n.toNat / 2 ^ (8 * i) : Nat) : Int) = ((UInt8.ofNat (n.toNat / 2 ^ (8 * i))).toNat : Int) := by
      simp [IntKind.wrap, IntKind.bits, IntKind.signed]
    have hlen : (l ++ leB n.toNat i).length = l.length + i := by simp [leB_length]
    refine E_seq ?_
    refine E_seqR ?_
    refine EL_val (R_move rfl) rfl rfl rfl ?_
    refine EL_val (R_move rfl) rfl rfl rfl ?_
    first | refine EL_val (R_lss_t rfl rfl (by omega)) rfl rfl rfl ?_ | refine EL_val (R_lss_f rfl rfl (by omega)) rfl rfl rfl ?_
    refine EL_nil ?_
    refine E_cond_t rfl ?_
    refine E_skip ?_
    refine thenQ_n ?_
    refine E_seq ?_
    refine E_block ?_
    refine E_region ?_
    refine EL_val (R_move rfl) rfl rfl rfl ?_
    refine EL_val (R_move rfl) rfl rfl rfl ?_
    refine EL_val (R_convInt n (hu _ hn hn2) rfl Try.underlying3 Try.underlying85) rfl rfl rfl ?_
    refine EL_val (R_move rfl) rfl rfl rfl ?_
    refine EL_val (R_convInt (i : Int) (hu _ (by omega) (by omega)) rfl Try.underlying3 Try.underlying85) rfl rfl rfl ?_
    refine EL_val (R_mulK (8 * (i : Int)) (hu _ (by omega) (by omega)) rfl rfl) rfl rfl rfl ?_
    refine EL_val (R_shrE ((n.toNat / 2 ^ (8 * i) : Nat) : Int) (by omega) (by simp [IntKind.bits]; omega) hp rfl rfl) rfl rfl rfl ?_
    refine EL_val (R_convInt ((UInt8.ofNat (n.toNat / 2 ^ (8 * i))).toNat : Int) hw rfl Try.underlying85 Try.underlying5) rfl rfl rfl ?_
    refine EL_step rfl ?_
    refine EO_buildSlice Try.underlying56 K.zr5 K.sz5 rfl rfl rfl (fill_whole rfl (by rw [size_madeCells])) rfl ?_
    intro w2 hn2
    refine EL_step rfl ?_
    refine EO_append rfl rfl Try.underlying56 K.sz5 K.zr5 K.by5 rfl (by decide) (hn2.mods.own ho fun _ _ h => h) (Src.bk hn2.bk 1 1 [.int .u8 ((UInt8.ofNat (n.toNat / 2 ^ (8 * i))).toNat : Int)] rfl (fun q u hq => by rw [Nat.zero_add]; show (#[.int .u8 ((UInt8.ofNat (n.toNat / 2 ^ (8 * i))).toNat : Int)] : Array Value)[q]? = some u; simpa using hq)) (by simp [Value.oneCell']) (by simp only [maxLen]; omega) (by omega) (by have := hn2.size; omega) rfl ?_
    intro v3 w3 ho3 hm3 hat3
    refine EL_val (R_assign rfl) rfl rfl rfl ?_
    refine EL_nil ?_
    refine inB_n ?_
    refine thenQ_n ?_
    refine E_region ?_
    refine EL_val (R_move rfl) rfl rfl rfl ?_
    first | refine EL_val (R_inc rfl (by omega)) rfl rfl rfl ?_ | refine EL_val (R_add_in rfl rfl (by omega) (by omega)) rfl rfl rfl ?_
    refine EL_val (R_assign rfl) rfl rfl rfl ?_
    refine EL_nil ?_
    refine thenQ_n ?_
    have ho2 := hn2.mods.own ho fun _ _ h => h
    refine ⟨rfl, size - (i + 1), [(0, v3), (1, .int .i64 n), (2, .int .i64 (size : Int)), (7, .int .i64 ((i + 1 : Nat) : Int))], by omega, ⟨rfl, rfl, rfl, rfl, trivial⟩, i + 1, v3, by omega, rfl, rfl, ?_, (hm.trans (TM.of_no hn2.mods)).trans (TM.self hm3 ho2 (Nat.le_refl _) rfl)⟩
    unfold OB
    rw [leB_succ, ← List.append_assoc, List.length_append]
    have e : bval (l ++ leB n.toNat i ++ [UInt8.ofNat (n.toNat / 2 ^ (8 * i))]) = bval (l ++ leB n.toNat i) ++ [.int .u8 ((UInt8.ofNat (n.toNat / 2 ^ (8 * i))).toNat : Int)] := by simp [bval]
    rw [e]
    exact ho3
  · have hi' : i = size := by omega
    subst hi'
    refine E_seq ?_
    refine E_seqR ?_
    refine EL_val (R_move rfl) rfl rfl rfl ?_
    refine EL_val (R_move rfl) rfl rfl rfl ?_
    first | refine EL_val (R_lss_t rfl rfl (by omega)) rfl rfl rfl ?_ | refine EL_val (R_lss_f rfl rfl (by omega)) rfl rfl rfl ?_
    refine EL_nil ?_
    refine E_cond_f rfl ?_
    refine E_exit ?_
    refine thenQ_e ?_
    refine thenQ_e ?_
    refine inB_eq rfl ?_
    refine thenQ_n ?_
    refine E_seqR ?_
    refine EL_val (R_move rfl) rfl rfl rfl ?_
    refine EL_val (R_assign rfl) rfl rfl rfl ?_
    refine EL_nil ?_
    refine E_ret ?_
    refine ret1 (.inr rfl) rfl rfl ?_
    exact ⟨ho, hm⟩
/-- up to 60 bytes, sealed -/
def sealR (l : List UInt8) : List UInt8 := (l ++ zerosB (60 - l.length)) ++ leB (sumS (l ++ zerosB (60 - l.length))).toNat 4
theorem sealR_eq {l : List UInt8} {m : List UInt8} (h : m = l ++ zerosB (64 - l.length)) (hl : l.length ≤ 60) : sealR l = sealS m := by
  have : m.take 60 = l ++ zerosB (60 - l.length) := by
    subst h
    rw [List.take_append, List.take_of_length_le hl]
    congr 1
    simp [zerosB, List.take_replicate]
    omega
  unfold sealR sealS
  rw [this]
theorem refseal_ok {w : World} {A : Option Addr} {l : List UInt8} {c : Nat} (hl : BS w A l) (h60 : l.length ≤ 60) :
    Ret Try.prog 42 [.slice A l.length c] w fun v w' => OB w.heap.size w' v (sealR l) ∧ Mods No w w' := by
  obtain ⟨B, hB⟩ : ∃ B, B = w.heap.size := ⟨_, rfl⟩
  refine Ret.enter Try.func42 rfl Try.ntmps42 rfl ?_
  simp only [argEnv, Nat.reduceAdd]
  refine E_seqR ?_
  refine EL_val (R_assign rfl) rfl rfl rfl ?_
  refine EL_nil ?_
  refine E_seqR ?_
  refine EL_step rfl ?_
  refine EO_buildSlice0 Try.underlying56 K.sz5 rfl ?_
  intro w1 hn1
  refine EL_val (R_move rfl) rfl rfl rfl ?_
  refine EL_step rfl ?_
  refine EO_append rfl rfl Try.underlying56 K.sz5 K.zr5 K.by5 rfl (by decide) (hn1.own0 (m := 0) rfl (Nat.le_refl _) (by simp only [maxLen]; omega)) (hl.no hn1.mods) bval_one (by simp only [maxLen]; omega) (by omega) (by have := hn1.size; omega) rfl ?_
  intro v2 w2 ho2 hm2 hat2
  refine EL_val (R_assign rfl) rfl rfl rfl ?_
  refine EL_nil ?_
  refine E_seq ?_
  have ho : OB B w2 v2 (l ++ zerosB 0) := by
    unfold OB
    rw [show l ++ zerosB 0 = l from by simp [zerosB], hB]
    simpa using ho2
  have hs1 := hn1.size
  have hm : TM U8 B w w2 := (TM.of_no hn1.mods).trans (hm2.mono fun q _ hq => by
    simp [Value.ownBlock] at hq
    subst hq
    exact ⟨by omega, _, _, hn1.bk, rfl⟩)
  clear ho2 hm2 hat2 hn1
  refine E_cut (fun e0 w' => ∃ v, e0 = [(3, v)] ∧ OB B w' v (l ++ zerosB (60 - l.length)) ∧ TM U8 B w w') ?_ ?_
  · refine E_block ?_
    refine E_loop (fun m' e' w' => ∃ k v, l.length + k ≤ 60 ∧ m' = 60 - (l.length + k) ∧ e' = [(3, v)] ∧ OB B w' v (l ++ zerosB k) ∧ TM U8 B w w') (60 - l.length) [(3, v2)] ⟨rfl, trivial⟩ ⟨0, v2, by omega, rfl, rfl, ho, hm⟩ ?_
    clear ho hm
    rintro m' e w3 ⟨k, v, hk, rfl, rfl, ho, hm⟩
    have hlen : (l ++ zerosB k).length = l.length + k := by simp [zerosB]
    obtain ⟨Av, cv, rfl, hcv, hsp⟩ := own_sl ho
    have hs3 := hm.size
    by_cases hlt : l.length + k < 60
    · refine E_seq ?_
      refine E_seqR ?_
      refine EL_val (R_move rfl) rfl rfl rfl ?_
      refine EL_val (R_lenSlice rfl Try.underlying56) rfl rfl rfl ?_
      first | refine EL_val (R_lss_t rfl rfl (by omega)) rfl rfl rfl ?_ | refine EL_val (R_lss_f rfl rfl (by omega)) rfl rfl rfl ?_
      refine EL_nil ?_
      refine E_cond_t rfl ?_
      refine E_skip ?_
      refine thenQ_n ?_
      refine E_block ?_
      refine E_region ?_
      refine EL_val (R_move rfl) rfl rfl rfl ?_
      refine EL_step rfl ?_
      refine EO_buildSlice Try.underlying56 K.zr5 K.sz5 rfl rfl rfl (fill_whole rfl (by rw [size_madeCells])) rfl ?_
      intro w4 hn4
      refine EL_step rfl ?_
      refine EO_append rfl rfl Try.underlying56 K.sz5 K.zr5 K.by5 rfl (by decide) (hn4.mods.own ho fun _ _ h => h) (Src.bk hn4.bk 1 1 [.int .u8 0] rfl (fun q u hq => by rw [Nat.zero_add]; show (#[.int .u8 0] : Array Value)[q]? = some u; simpa using hq)) (by simp [Value.oneCell']) (by simp only [maxLen]; omega) (by omega) (by have := hn4.size; omega) rfl ?_
      intro v5 w5 ho5 hm5 hat5
      refine EL_val (R_assign rfl) rfl rfl rfl ?_
      refine EL_nil ?_
      refine inB_n ?_
      refine thenQ_n ?_
      have ho4 := hn4.mods.own ho fun _ _ h => h
      refine ⟨rfl, 60 - (l.length + (k + 1)), [(3, v5)], by omega, ⟨rfl, trivial⟩, k + 1, v5, by omega, rfl, rfl, ?_, (hm.trans (TM.of_no hn4.mods)).trans (TM.self hm5 ho4 (Nat.le_refl _) rfl)⟩
      unfold OB
      have e : l ++ zerosB (k + 1) = (l ++ zerosB k) ++ [0] := by rw [List.append_assoc]; congr 1; exact List.replicate_succ'
      rw [e, List.length_append]
      rw [show bval (l ++ zerosB k ++ [0]) = bval (l ++ zerosB k) ++ [.int .u8 0] from by simp [bval]]
      exact ho5
    · have hk' : k = 60 - l.length := by omega
      subst hk'
      refine E_seq ?_
      refine E_seqR ?_
      refine EL_val (R_move rfl) rfl rfl rfl ?_
      refine EL_val (R_lenSlice rfl Try.underlying56) rfl rfl rfl ?_
      first | refine EL_val (R_lss_t rfl rfl (by omega)) rfl rfl rfl ?_ | refine EL_val (R_lss_f rfl rfl (by omega)) rfl rfl rfl ?_
      refine EL_nil ?_
      refine E_cond_f rfl ?_
      refine E_exit ?_
      refine thenQ_e ?_
      refine thenQ_e ?_
      refine inB_eq rfl ?_
      refine thenQ_n ?_
      exact ⟨rfl, [(3, .slice Av (l ++ zerosB (60 - l.length)).length cv)], ⟨rfl, trivial⟩, _, rfl, ho, hm⟩
  clear ho hm hs1
  rintro e0 w3 ⟨v, rfl, ho, hm⟩
  obtain ⟨m, hmm⟩ : ∃ m, m = l ++ zerosB (60 - l.length) := ⟨_, rfl⟩
  have hml : m.length = 60 := by rw [hmm]; simp [zerosB]; omega
  rw [← hmm] at ho
  obtain ⟨g, cap, cur, rfl, hgB, hbk, hle, hmx, _⟩ := own_form ho (by omega)
  rw [hml] at hle
  rw [hml]
  have hs3 := hm.size
  have hrange := sumS_range m
  unfold OB at ho
  rw [hml] at ho
  have hBS : BS w3 (some ⟨g, 0, none⟩) m := by
    have := Src.own ho
    unfold BS
    rw [hml]
    exact this
  have hput : ∀ {w4 : World}, Mods No w3 w4 → Ret Try.prog 41 [.slice (some ⟨g, 0, none⟩) 60 cap, .int .i64 (sumS m), .int .i64 4] w4 fun v' w' => OB B w' v' (m ++ leB (sumS m).toNat 4) ∧ TM U8 B w4 w' := fun {w4} h => by
    have h1 : OB B w4 (.slice (some ⟨g, 0, none⟩) 60 cap) m := by
      unfold OB
      rw [hml]
      exact h.own ho fun _ _ h => h
    exact refput_ok (size := 4) h1 (by have := h.size; omega) hrange.1 (by omega) (by omega) (by omega)

  refine E_seqD (fun w' => [(4, fun w'' => w'' = w')]) 8 K.mix rfl ?_
  intro w4 hm4 hh4
  refine EA_pure 0 rfl (fun _ => R_move rfl) (by kernel_rfl) rfl rfl rfl ?_
  refine EA_pure 1 rfl (fun _ => R_sliceH (60) (by omega) (by omega) rfl rfl Try.underlying56 K.sz5 (by rintro _ ⟨⟩ <;> rfl)) (by kernel_rfl) rfl rfl rfl ?_
  refine EA_pure 2 rfl (fun _ => R_move rfl) (by kernel_rfl) rfl rfl rfl ?_
  refine EA_pure 3 rfl (fun _ => R_sliceH (60) (by omega) (by omega) rfl rfl Try.underlying56 K.sz5 (by rintro _ ⟨⟩ <;> rfl)) (by kernel_rfl) rfl rfl rfl ?_
  refine EA_one 4 rfl (by kernel_rfl) rfl ⟨fun _ => rfl, trivial⟩ ?_
  refine EO_call K.bd52 rfl rfl ((by have := refsum_ok (c := cap) (hBS.no hm4) (by omega); rw [hml] at this; exact this)) ?_
  rintro _ _ ⟨rfl, rfl⟩
  refine EA_pure 5 rfl (fun _ => R_convInt (sumS m) (wrap_i64_in (by omega) (by omega)) rfl Try.underlying86 Try.underlying3) (by kernel_rfl) rfl rfl rfl ?_
  refine EA_one 6 rfl (by kernel_rfl) rfl (Holds.done (by kernel_rfl)) ?_
  refine EO_call K.bd41 rfl rfl (hput hm4) ?_
  rintro v5 w5 ⟨ho5, hm5⟩
  refine EA_pure 7 rfl (fun _ => R_assign rfl) (by kernel_rfl) rfl rfl rfl ?_
  refine EA_done (by kernel_rfl) (Holds.done (by kernel_rfl)) ?_
  refine E_ret ?_
  refine ret1 (.inr rfl) rfl rfl ?_
  rw [← hB]
  unfold sealR
  rw [← hmm]
  exact ⟨ho5, TM.no_of (Mods.refl _ _) ((hm.trans (TM.of_no hm4)).trans hm5) (by omega)⟩
end Go.Proofs.Ytifmdcjncbbcgaa
