/- The disk: Put. -/
import Derived.Test.YtobhogdndfbniaaDiskE
set_option linter.unusedVariables false
set_option linter.unusedSimpArgs false
set_option maxRecDepth 100000
namespace Go.Proofs.Ytobhogdndfbniaa
open Go.EW Go.RowKit

/-- bytes that a slice value holds, off the disk's own blocks -/
def BytesOff (B : Nat) (w : World) (A : Option Addr) (l : List UInt8) : Prop :=
  0 < l.length → ∃ g i, A = some ⟨g, i, none⟩ ∧ Cells w g i (bv l) ∧ ¬ foot B w g
/-- the writes that a slice of api.Write holds: where, and what -/
def Writes (B : Nat) (w : World) (A : Option Addr) (L : List (Int × List UInt8)) : Prop :=
  L.length ≤ 9223372036854775807 ∧ (0 < L.length → ∃ g i, A = some ⟨g, i, none⟩ ∧ ¬ foot B w g ∧
    ∀ (k : Nat) (hk : k < L.length), ∃ Ad cd, w.cell? ⟨g, i + k * 2, none⟩ = some (.int .i64 L[k].1) ∧ w.cell? ⟨g, i + k * 2 + 1, none⟩ = some (.slice Ad L[k].2.length cd) ∧ BytesOff B w Ad L[k].2)
theorem BytesOff.dm {B : Nat} {w w' : World} {A : Option Addr} {l : List UInt8} (h : BytesOff B w A l) (hm : DM B w w') : BytesOff B w' A l := fun h0 => by
  obtain ⟨g, i, hA, hc, hf⟩ := h h0
  refine ⟨g, i, hA, Mods.cells hm hc hf, fun hf' => hf (foot_back hm (fun _ _ h => h) ?_ hf')⟩
  exact World.block_lt_of_cell? w _ (hc 0 ((bv l)[0]'(by rw [bv_size]; exact h0)) (Array.getElem?_eq_getElem (by rw [bv_size]; exact h0)))
theorem Writes.dm {B : Nat} {w w' : World} {A : Option Addr} {L : List (Int × List UInt8)} (h : Writes B w A L) (hm : DM B w w') : Writes B w' A L := by
  refine ⟨h.1, fun h0 => ?_⟩
  obtain ⟨g, i, hA, hf, hk⟩ := h.2 h0
  refine ⟨g, i, hA, fun hf' => hf (foot_back hm (fun _ _ h => h) ?_ hf'), fun k hkl => ?_⟩
  · obtain ⟨Ad, cd, h1, _⟩ := hk 0 h0
    exact World.block_lt_of_cell? w _ h1
  · obtain ⟨Ad, cd, h1, h2, h3⟩ := hk k hkl
    exact ⟨Ad, cd, Mods.cell hm h1 hf, Mods.cell hm h2 hf, h3.dm hm⟩
/-- the writes one after the other -/
def putL : DS → List (Int × List UInt8) → DS × Int
  | S, [] => (S, 0)
  | S, (a, b) :: r => if (spendS S).2 = 0 then putL { (spendS S).1 with opn := fup (spendS S).1.opn a.toNat ((spendS S).1.opn a.toNat ++ [b]) } r else ((spendS S).1, 8)
def badLen (L : List (Int × List UInt8)) : Bool := L.any fun p => p.2.length != 64
def badAt (n : Nat) (L : List (Int × List UInt8)) : Bool := L.any fun p => decide (p.1 < 0) || decide ((n : Int) ≤ p.1)
def putS (S : DS) (L : List (Int × List UInt8)) : DS × Int :=
  if S.off then (S, 8) else if badLen L then (S, 1) else if badAt S.n L then (S, 7) else putL S L
theorem put_nil {w : World} {v : Value} : Ret Try.prog 16 [.pointer none, v] w fun v w' => v = .int .i64 1 ∧ w = w' := by
  refine Ret.enter Try.func16 rfl Try.ntmps16 rfl ?_
  simp only [argEnv, Nat.reduceAdd]
  refine E_seqR ?_
  refine EL_val (R_assign rfl) rfl rfl rfl ?_
  refine EL_nil ?_
  refine E_seq ?_
  refine E_seqR ?_
  refine EL_val (R_move rfl) rfl rfl rfl ?_
  refine EL_step rfl ?_
  refine EO_call K.bd30 rfl rfl (ready_nil) ?_
  rintro _ _ ⟨rfl, rfl⟩
  refine EL_val (R_assign rfl) rfl rfl rfl ?_
  refine EL_nil ?_
  refine E_seqR ?_
  refine EL_val (R_move rfl) rfl rfl rfl ?_
  first | refine EL_val (R_neq_t rfl rfl (by omega)) rfl rfl rfl ?_ | refine EL_val (R_neq_f rfl rfl (by omega)) rfl rfl rfl ?_
  refine EL_nil ?_
  refine E_cond_t rfl ?_
  refine E_seqR ?_
  refine EL_val (R_move rfl) rfl rfl rfl ?_
  refine EL_val (R_assign rfl) rfl rfl rfl ?_
  refine EL_nil ?_
  refine E_ret ?_
  refine thenQ_r ?_
  refine ret1 (.inr rfl) rfl rfl ?_
  exact ⟨rfl, rfl⟩
/-- the first k are of 64 bytes -/
theorem badLen_first {L : List (Int × List UInt8)} : badLen L = true → ∃ (k : Nat) (hk : k < L.length), L[k].2.length ≠ 64 := by
  intro h
  obtain ⟨p, hp, hq⟩ := List.any_eq_true.1 h
  obtain ⟨k, hk, rfl⟩ := List.getElem_of_mem hp
  exact ⟨k, hk, by simpa using hq⟩
theorem badLen_no {L : List (Int × List UInt8)} (h : badLen L = false) (k : Nat) (hk : k < L.length) : L[k].2.length = 64 := by
  have := List.any_eq_false.1 h L[k] (List.getElem_mem _)
  simpa using this
theorem badAt_no {n : Nat} {L : List (Int × List UInt8)} (h : badAt n L = false) (k : Nat) (hk : k < L.length) : 0 ≤ L[k].1 ∧ L[k].1 < n := by
  have := List.any_eq_false.1 h L[k] (List.getElem_mem _)
  simp at this
  omega
theorem badAt_first {n : Nat} {L : List (Int × List UInt8)} : badAt n L = true → ∃ (k : Nat) (hk : k < L.length), L[k].1 < 0 ∨ (n : Int) ≤ L[k].1 := by
  intro h
  obtain ⟨p, hp, hq⟩ := List.any_eq_true.1 h
  obtain ⟨k, hk, rfl⟩ := List.getElem_of_mem hp
  exact ⟨k, hk, by simpa using hq⟩

theorem putL_n : ∀ (L : List (Int × List UInt8)) (S : DS), (putL S L).1.n = S.n
  | [], S => rfl
  | (a, b) :: r, S => by
    unfold putL
    split
    · rw [putL_n r]; exact spend_n S
    · exact spend_n S
theorem spend_opn (S : DS) : (spendS S).1.opn = S.opn ∧ (spendS S).1.off = (S.off || decide (S.left = 0)) := by
  unfold spendS
  split
  · rename_i h; simp [h]
  · rename_i h; split <;> simp [h]
set_option maxHeartbeats 1000000 in
theorem put_ok {w : World} {B d g : Nat} {C : Array Value} {ov : Nat → Value} {S : DS} (h : DiskAt w B d g C ov S) (hB : B ≤ w.heap.size) {A : Option Addr} {L : List (Int × List UInt8)} (hw : Writes B w A L) (c : Nat)
    (hroom : ∀ i, i < S.n → (S.opn i).length + L.length ≤ 2199023255552) :
    Ret Try.prog 16 [ptr d, .slice A L.length c] w fun v w' => v = .int .i64 (putS S L).2 ∧ Disk w' B d (putS S L).1 ∧ DM B w w' := by
  cases ho : S.off
  case true =>
    have hr : readyS S = 8 := by simp [readyS, ho]
    have hP : putS S L = (S, 8) := by simp [putS, ho]
    rw [hP]
    refine Ret.enter Try.func16 rfl Try.ntmps16 rfl ?_
    simp only [argEnv, Nat.reduceAdd]
    refine E_seqR ?_
    refine EL_val (R_assign rfl) rfl rfl rfl ?_
    refine EL_nil ?_
    refine E_seq ?_
    refine E_seqR ?_
    refine EL_val (R_move rfl) rfl rfl rfl ?_
    refine EL_step rfl ?_
    refine EO_call K.bd30 rfl rfl (ready_ok h) ?_
    rintro _ _ ⟨rfl, rfl⟩
    refine EL_val (R_assign rfl) rfl rfl rfl ?_
    refine EL_nil ?_
    refine E_seqR ?_
    refine EL_val (R_move rfl) rfl rfl rfl ?_
    first | refine EL_val (R_neq_t rfl rfl (by omega)) rfl rfl rfl ?_ | refine EL_val (R_neq_f rfl rfl (by omega)) rfl rfl rfl ?_
    refine EL_nil ?_
    refine E_cond_t rfl ?_
    refine E_seqR ?_
    refine EL_val (R_move rfl) rfl rfl rfl ?_
    refine EL_val (R_assign rfl) rfl rfl rfl ?_
    refine EL_nil ?_
    refine E_ret ?_
    refine thenQ_r ?_
    refine ret1 (.inr rfl) rfl rfl ?_
    exact ⟨by rw [hr], ⟨g, C, ov, h⟩, DM.refl _ _⟩
  have hr : readyS S = 0 := by simp [readyS, ho]
  have hl := hw.1
  refine Ret.enter Try.func16 rfl Try.ntmps16 rfl ?_
  simp only [argEnv, Nat.reduceAdd]
  refine E_seqR ?_
  refine EL_val (R_assign rfl) rfl rfl rfl ?_
  refine EL_nil ?_
  refine E_seq ?_
  refine E_seqR ?_
  refine EL_val (R_move rfl) rfl rfl rfl ?_
  refine EL_step rfl ?_
  refine EO_call K.bd30 rfl rfl (ready_ok h) ?_
  rintro _ _ ⟨rfl, rfl⟩
  refine EL_val (R_assign rfl) rfl rfl rfl ?_
  refine EL_nil ?_
  refine E_seqR ?_
  refine EL_val (R_move rfl) rfl rfl rfl ?_
  first | refine EL_val (R_neq_t rfl rfl (by omega)) rfl rfl rfl ?_ | refine EL_val (R_neq_f rfl rfl (by omega)) rfl rfl rfl ?_
  refine EL_nil ?_
  refine E_cond_f rfl ?_
  refine E_skip ?_
  refine thenQ_n ?_
  refine E_seq ?_
  refine E_seqR ?_
  refine EL_val (R_move rfl) rfl rfl rfl ?_
  refine EL_val (R_lenSlice rfl Try.underlying42) rfl rfl rfl ?_
  refine EL_val (R_move rfl) rfl rfl rfl ?_
  refine EL_nil ?_
  refine E_block ?_
  refine E_loop (fun m' e' w' => ∃ i, i ≤ L.length ∧ m' = L.length - i ∧ e' = [(0, ptr d), (1, .slice A L.length c), (19, .slice A L.length c), (20, .int .i64 (L.length : Int)), (21, .int .i64 ((i : Nat) : Int))] ∧ Mods No w w' ∧ ∀ k (hk : k < L.length), k < i → L[k].2.length = 64) L.length [(0, ptr d), (1, .slice A L.length c), (19, .slice A L.length c), (20, .int .i64 (L.length : Int)), (21, .int .i64 ((0 : Nat) : Int))] ⟨rfl, rfl, rfl, rfl, rfl, trivial⟩
    ⟨0, by omega, by omega, rfl, Mods.refl _ _, fun k _ hk => by omega⟩ ?_
  rintro m' e w' ⟨i, hi, rfl, rfl, hm, hall⟩
  by_cases hlt : i < L.length
  · obtain ⟨g2, i2, hA, hf, hcell⟩ := hw.2 (by omega)
    rw [hA]
    obtain ⟨Ad, cd, h1, h2, h3⟩ := hcell i hlt
    have hcs : Cells w' g2 (i2 + i * 2) #[.int .i64 L[i].1, .slice Ad L[i].2.length cd] := by
      intro j v hv
      match j, hv with
      | 0, hv => injection hv with hv; subst hv; exact hm.cell h1 id
      | 1, hv => injection hv with hv; subst hv; exact hm.cell h2 id
    by_cases h64 : L[i].2.length = 64
    · skip
      refine E_seqR ?_
      first | refine EL_val (R_lss_t rfl rfl (by omega)) rfl rfl rfl ?_ | refine EL_val (R_lss_f rfl rfl (by omega)) rfl rfl rfl ?_
      refine EL_nil ?_
      refine E_seq ?_
      refine E_cond_t rfl ?_
      refine E_skip ?_
      refine thenQ_n ?_
      refine E_seq ?_
      refine E_block ?_
      refine E_seqR ?_
      refine EL_val (R_indexAddr rfl rfl Try.underlying42 K.sz35 rfl (by omega)) rfl rfl rfl ?_
      refine EL_val (R_loadAgg rfl K.ag35 (hcs) (K.sz35)) rfl rfl rfl ?_
      refine EL_step rfl ?_
      refine EO_alloc K.zr35 rfl ?_
      intro w3 hn3
      refine EL_step rfl ?_
      refine EO_storeWhole hn3.bk rfl rfl K.sz35 rfl rfl ?_
      intro w4 hu4
      refine EL_nil ?_
      refine E_seqR ?_
      refine EL_val (R_fieldAddr rfl K.fT35_1) rfl rfl rfl ?_
      refine EL_val (R_load rfl K.ag23 (hu4.bk.cell rfl)) rfl rfl rfl ?_
      refine EL_val (R_lenSlice rfl Try.underlying23) rfl rfl rfl ?_
      first | refine EL_val (R_neq_t rfl rfl (by omega)) rfl rfl rfl ?_ | refine EL_val (R_neq_f rfl rfl (by omega)) rfl rfl rfl ?_
      refine EL_nil ?_
      refine E_cond_f rfl ?_
      refine E_skip ?_
      refine inB_n ?_
      refine thenQ_n ?_
      refine E_region ?_
      first | refine EL_val (R_inc rfl (by omega)) rfl rfl rfl ?_ | refine EL_val (R_add_in rfl rfl (by omega) (by omega)) rfl rfl rfl ?_
      refine EL_val (R_move rfl) rfl rfl rfl ?_
      refine EL_nil ?_
      refine thenQ_n ?_
      refine ⟨rfl, L.length - (i + 1), [(0, ptr d), (1, .slice (some ⟨g2, i2, none⟩) L.length c), (19, .slice (some ⟨g2, i2, none⟩) L.length c), (20, .int .i64 (L.length : Int)), (21, .int .i64 ((i + 1 : Nat) : Int))], by omega, ⟨rfl, rfl, rfl, rfl, rfl, trivial⟩, i + 1, by omega, rfl, rfl, ?_, fun k hk hki => ?_⟩
      · exact hm.trans' (hn3.mods.trans' hu4.mods fun i hi hh => by omega) fun i hi hh => hh
      · by_cases hki' : k = i
        · subst hki'; exact h64
        · exact hall k hk (by omega)
    · have hP : putS S L = (S, 1) := by
        have : badLen L = true := List.any_eq_true.2 ⟨L[i], List.getElem_mem _, by simpa using h64⟩
        simp [putS, ho, this]
      rw [hP]

      refine E_seqR ?_
      first | refine EL_val (R_lss_t rfl rfl (by omega)) rfl rfl rfl ?_ | refine EL_val (R_lss_f rfl rfl (by omega)) rfl rfl rfl ?_
      refine EL_nil ?_
      refine E_seq ?_
      refine E_cond_t rfl ?_
      refine E_skip ?_
      refine thenQ_n ?_
      refine E_seq ?_
      refine E_block ?_
      refine E_seqR ?_
      refine EL_val (R_indexAddr rfl rfl Try.underlying42 K.sz35 rfl (by omega)) rfl rfl rfl ?_
      refine EL_val (R_loadAgg rfl K.ag35 (hcs) (K.sz35)) rfl rfl rfl ?_
      refine EL_step rfl ?_
      refine EO_alloc K.zr35 rfl ?_
      intro w3 hn3
      refine EL_step rfl ?_
      refine EO_storeWhole hn3.bk rfl rfl K.sz35 rfl rfl ?_
      intro w4 hu4
      refine EL_nil ?_
      refine E_seqR ?_
      refine EL_val (R_fieldAddr rfl K.fT35_1) rfl rfl rfl ?_
      refine EL_val (R_load rfl K.ag23 (hu4.bk.cell rfl)) rfl rfl rfl ?_
      refine EL_val (R_lenSlice rfl Try.underlying23) rfl rfl rfl ?_
      first | refine EL_val (R_neq_t rfl rfl (by omega)) rfl rfl rfl ?_ | refine EL_val (R_neq_f rfl rfl (by omega)) rfl rfl rfl ?_
      refine EL_nil ?_
      refine E_cond_t rfl ?_
      refine E_seqR ?_
      refine EL_val (R_assign rfl) rfl rfl rfl ?_
      refine EL_nil ?_
      refine E_ret ?_
      refine inB_r (thenQ_r (thenQ_r (inB_r (thenQ_r ?_))))
      refine ret1 (.inr rfl) rfl rfl ?_
      have hm4 : Mods No w w4 := hm.trans' (hn3.mods.trans' hu4.mods fun i hi hh => by omega) fun i hi hh => hh
      exact ⟨rfl, ⟨g, C, ov, h.no hm4⟩, DM.of_no hm4⟩
  have hgood : badLen L = false := by
    cases hb : badLen L
    · rfl
    · obtain ⟨k, hk, hq⟩ := badLen_first hb
      exact absurd (hall k hk (by omega)) hq
  clear hall

  refine E_seqR ?_
  first | refine EL_val (R_lss_t rfl rfl (by omega)) rfl rfl rfl ?_ | refine EL_val (R_lss_f rfl rfl (by omega)) rfl rfl rfl ?_
  refine EL_nil ?_
  refine E_seq ?_
  refine E_cond_f rfl ?_
  refine E_exit ?_
  refine thenQ_e ?_
  refine thenQ_e ?_
  refine inB_eq rfl ?_
  refine thenQ_n ?_
  refine E_seq ?_
  refine E_seqR ?_
  refine EL_val (R_move rfl) rfl rfl rfl ?_
  refine EL_val (R_lenSlice rfl Try.underlying42) rfl rfl rfl ?_
  refine EL_val (R_move rfl) rfl rfl rfl ?_
  refine EL_nil ?_
  refine E_block ?_
  refine E_loop (fun m' e' w'' => ∃ i, i ≤ L.length ∧ m' = L.length - i ∧ e' = [(0, ptr d), (1, .slice (A) L.length c), (30, .slice (A) L.length c), (31, .int .i64 (L.length : Int)), (32, .int .i64 ((i : Nat) : Int))] ∧ Mods No w w'' ∧ ∀ k (hk : k < L.length), k < i → 0 ≤ L[k].1 ∧ L[k].1 < S.n) L.length [(0, ptr d), (1, .slice (A) L.length c), (30, .slice (A) L.length c), (31, .int .i64 (L.length : Int)), (32, .int .i64 ((0 : Nat) : Int))] ⟨rfl, rfl, rfl, rfl, rfl, trivial⟩
    ⟨0, by omega, by omega, rfl, hm, fun k _ hk => by omega⟩ ?_
  clear hm
  rintro m' e w' ⟨i, hi, rfl, rfl, hm, hall⟩
  by_cases hlt : i < L.length
  · obtain ⟨g2, i2, hA, hf, hcell⟩ := hw.2 (by omega)
    rw [hA]
    obtain ⟨Ad, cd, h1, h2, h3⟩ := hcell i hlt
    have hcs : Cells w' g2 (i2 + i * 2) #[.int .i64 L[i].1, .slice Ad L[i].2.length cd] := by
      intro j v hv
      match j, hv with
      | 0, hv => injection hv with hv; subst hv; exact hm.cell h1 id
      | 1, hv => injection hv with hv; subst hv; exact hm.cell h2 id
    by_cases hneg : L[i].1 < 0
    · have hP : putS S L = (S, 7) := by
        have : badAt S.n L = true := List.any_eq_true.2 ⟨L[i], List.getElem_mem _, by simp [hneg]⟩
        simp [putS, ho, hgood, this]
      rw [hP]

      refine E_seqR ?_
      first | refine EL_val (R_lss_t rfl rfl (by omega)) rfl rfl rfl ?_ | refine EL_val (R_lss_f rfl rfl (by omega)) rfl rfl rfl ?_
      refine EL_nil ?_
      refine E_seq ?_
      refine E_cond_t rfl ?_
      refine E_skip ?_
      refine thenQ_n ?_
      refine E_seq ?_
      refine E_block ?_
      refine E_seqR ?_
      refine EL_val (R_indexAddr rfl rfl Try.underlying42 K.sz35 rfl (by omega)) rfl rfl rfl ?_
      refine EL_val (R_loadAgg rfl K.ag35 (hcs) (K.sz35)) rfl rfl rfl ?_
      refine EL_step rfl ?_
      refine EO_alloc K.zr35 rfl ?_
      intro w3 hn3
      refine EL_step rfl ?_
      refine EO_storeWhole hn3.bk rfl rfl K.sz35 rfl rfl ?_
      intro w4 hu4
      refine EL_nil ?_
      refine E_seqD (fun w' => [(1000, fun w'' => w'' = w')]) 13 K.mix rfl ?_
      intro w5 hm5 hh5
      have hc5 := (hm5.bk' hu4.bk)
      refine EA_pure 0 rfl (fun _ => R_fieldAddr rfl K.fT35_0) (by kernel_rfl) rfl rfl rfl ?_
      refine EA_still 1 [1000] rfl (R_load rfl K.ag3 (hc5.cell rfl)) rfl (by kernel_rfl) (by kernel_rfl) rfl rfl rfl ?_
      first | refine EA_pure 2 rfl (fun _ => R_lss_t rfl rfl (by omega)) (by kernel_rfl) rfl rfl rfl ?_ | refine EA_pure 2 rfl (fun _ => R_lss_f rfl rfl (by omega)) (by kernel_rfl) rfl rfl rfl ?_
      refine EA_pure 3 rfl (fun _ => R_move rfl) (by kernel_rfl) rfl rfl rfl ?_
      refine EA_not 4 rfl (by kernel_rfl) rfl rfl rfl ?_
      refine EA_not 5 rfl (by kernel_rfl) rfl rfl rfl ?_
      refine EA_not 6 rfl (by kernel_rfl) rfl rfl rfl ?_
      refine EA_not 7 rfl (by kernel_rfl) rfl rfl rfl ?_
      refine EA_not 8 rfl (by kernel_rfl) rfl rfl rfl ?_
      refine EA_not 9 rfl (by kernel_rfl) rfl rfl rfl ?_
      refine EA_not 10 rfl (by kernel_rfl) rfl rfl rfl ?_
      refine EA_not 11 rfl (by kernel_rfl) rfl rfl rfl ?_
      first | refine EA_pure 12 rfl (fun _ => R_pick_t rfl rfl) (by kernel_rfl) rfl rfl rfl ?_ | refine EA_pure 12 rfl (fun _ => R_pick_f rfl rfl) (by kernel_rfl) rfl rfl rfl ?_
      refine EA_done (by kernel_rfl) ⟨fun _ => rfl, trivial⟩ ?_
      refine E_cond_t rfl ?_
      refine E_seqR ?_
      refine EL_val (R_assign rfl) rfl rfl rfl ?_
      refine EL_nil ?_
      refine E_ret ?_
      refine inB_r (thenQ_r (thenQ_r (inB_r (thenQ_r ?_))))
      refine ret1 (.inr rfl) rfl rfl ?_
      have hm4 : Mods No w w5 := (hm.trans' (hn3.mods.trans' hu4.mods fun i hi hh => by omega) fun i hi hh => hh).trans hm5
      exact ⟨rfl, ⟨g, C, ov, h.no hm4⟩, DM.of_no hm4⟩
    · by_cases hbig : (S.n : Int) ≤ L[i].1
      · have hP : putS S L = (S, 7) := by
          have : badAt S.n L = true := List.any_eq_true.2 ⟨L[i], List.getElem_mem _, by simp [hbig]⟩
          simp [putS, ho, hgood, this]
        rw [hP]

        refine E_seqR ?_
        first | refine EL_val (R_lss_t rfl rfl (by omega)) rfl rfl rfl ?_ | refine EL_val (R_lss_f rfl rfl (by omega)) rfl rfl rfl ?_
        refine EL_nil ?_
        refine E_seq ?_
        refine E_cond_t rfl ?_
        refine E_skip ?_
        refine thenQ_n ?_
        refine E_seq ?_
        refine E_block ?_
        refine E_seqR ?_
        refine EL_val (R_indexAddr rfl rfl Try.underlying42 K.sz35 rfl (by omega)) rfl rfl rfl ?_
        refine EL_val (R_loadAgg rfl K.ag35 (hcs) (K.sz35)) rfl rfl rfl ?_
        refine EL_step rfl ?_
        refine EO_alloc K.zr35 rfl ?_
        intro w3 hn3
        refine EL_step rfl ?_
        refine EO_storeWhole hn3.bk rfl rfl K.sz35 rfl rfl ?_
        intro w4 hu4
        refine EL_nil ?_
        refine E_seqD (fun w' => [(1000, fun w'' => w'' = w')]) 13 K.mix rfl ?_
        intro w5 hm5 hh5
        have hc5 := (hm5.bk' hu4.bk)
        refine EA_pure 0 rfl (fun _ => R_fieldAddr rfl K.fT35_0) (by kernel_rfl) rfl rfl rfl ?_
        refine EA_still 1 [1000] rfl (R_load rfl K.ag3 (hc5.cell rfl)) rfl (by kernel_rfl) (by kernel_rfl) rfl rfl rfl ?_
        first | refine EA_pure 2 rfl (fun _ => R_lss_t rfl rfl (by omega)) (by kernel_rfl) rfl rfl rfl ?_ | refine EA_pure 2 rfl (fun _ => R_lss_f rfl rfl (by omega)) (by kernel_rfl) rfl rfl rfl ?_
        refine EA_pure 3 rfl (fun _ => R_move rfl) (by kernel_rfl) rfl rfl rfl ?_
        first | refine EA_pure 4 rfl (fun _ => R_fieldAddr rfl K.fT35_0) (by kernel_rfl) rfl rfl rfl ?_ | refine EA_not 4 rfl (by kernel_rfl) rfl rfl rfl ?_
        refine EA_still 5 [1000] rfl (R_load rfl K.ag3 (hc5.cell rfl)) rfl (by kernel_rfl) (by kernel_rfl) rfl rfl rfl ?_
        first | refine EA_pure 6 rfl (fun _ => R_move rfl) (by kernel_rfl) rfl rfl rfl ?_ | refine EA_not 6 rfl (by kernel_rfl) rfl rfl rfl ?_
        first | refine EA_pure 7 rfl (fun _ => R_nilCheck rfl) (by kernel_rfl) rfl rfl rfl ?_ | refine EA_not 7 rfl (by kernel_rfl) rfl rfl rfl ?_
        first | refine EA_pure 8 rfl (fun _ => R_fieldAddr rfl K.fT70_1) (by kernel_rfl) rfl rfl rfl ?_ | refine EA_not 8 rfl (by kernel_rfl) rfl rfl rfl ?_
        refine EA_still 9 [1000] rfl (R_load rfl K.ag68 (((h.no hm).no (hn3.mods.trans' (hu4.mods.trans' hm5 (fun _ _ hh => hh.elim)) fun i hi hh => by omega)).cRow)) rfl (by kernel_rfl) (by kernel_rfl) rfl rfl rfl ?_
        first | refine EA_pure 10 rfl (fun _ => R_lenSlice rfl Try.underlying68) (by kernel_rfl) rfl rfl rfl ?_ | refine EA_not 10 rfl (by kernel_rfl) rfl rfl rfl ?_
        first | refine EA_pure 11 rfl (fun _ => R_geq_t rfl rfl (by omega)) (by kernel_rfl) rfl rfl rfl ?_ | refine EA_pure 11 rfl (fun _ => R_geq_f rfl rfl (by omega)) (by kernel_rfl) rfl rfl rfl ?_ | refine EA_not 11 rfl (by kernel_rfl) rfl rfl rfl ?_
        first | refine EA_pure 12 rfl (fun _ => R_pick_t rfl rfl) (by kernel_rfl) rfl rfl rfl ?_ | refine EA_pure 12 rfl (fun _ => R_pick_f rfl rfl) (by kernel_rfl) rfl rfl rfl ?_
        refine EA_done (by kernel_rfl) ⟨fun _ => rfl, trivial⟩ ?_
        refine E_cond_t rfl ?_
        refine E_seqR ?_
        refine EL_val (R_assign rfl) rfl rfl rfl ?_
        refine EL_nil ?_
        refine E_ret ?_
        refine inB_r (thenQ_r (thenQ_r (inB_r (thenQ_r ?_))))
        refine ret1 (.inr rfl) rfl rfl ?_
        have hm4 : Mods No w w5 := (hm.trans' (hn3.mods.trans' hu4.mods fun i hi hh => by omega) fun i hi hh => hh).trans hm5
        exact ⟨rfl, ⟨g, C, ov, h.no hm4⟩, DM.of_no hm4⟩
      · skip
        refine E_seqR ?_
        first | refine EL_val (R_lss_t rfl rfl (by omega)) rfl rfl rfl ?_ | refine EL_val (R_lss_f rfl rfl (by omega)) rfl rfl rfl ?_
        refine EL_nil ?_
        refine E_seq ?_
        refine E_cond_t rfl ?_
        refine E_skip ?_
        refine thenQ_n ?_
        refine E_seq ?_
        refine E_block ?_
        refine E_seqR ?_
        refine EL_val (R_indexAddr rfl rfl Try.underlying42 K.sz35 rfl (by omega)) rfl rfl rfl ?_
        refine EL_val (R_loadAgg rfl K.ag35 (hcs) (K.sz35)) rfl rfl rfl ?_
        refine EL_step rfl ?_
        refine EO_alloc K.zr35 rfl ?_
        intro w3 hn3
        refine EL_step rfl ?_
        refine EO_storeWhole hn3.bk rfl rfl K.sz35 rfl rfl ?_
        intro w4 hu4
        refine EL_nil ?_
        refine E_seqD (fun w' => [(1000, fun w'' => w'' = w')]) 13 K.mix rfl ?_
        intro w5 hm5 hh5
        have hc5 := (hm5.bk' hu4.bk)
        refine EA_pure 0 rfl (fun _ => R_fieldAddr rfl K.fT35_0) (by kernel_rfl) rfl rfl rfl ?_
        refine EA_still 1 [1000] rfl (R_load rfl K.ag3 (hc5.cell rfl)) rfl (by kernel_rfl) (by kernel_rfl) rfl rfl rfl ?_
        first | refine EA_pure 2 rfl (fun _ => R_lss_t rfl rfl (by omega)) (by kernel_rfl) rfl rfl rfl ?_ | refine EA_pure 2 rfl (fun _ => R_lss_f rfl rfl (by omega)) (by kernel_rfl) rfl rfl rfl ?_
        refine EA_pure 3 rfl (fun _ => R_move rfl) (by kernel_rfl) rfl rfl rfl ?_
        first | refine EA_pure 4 rfl (fun _ => R_fieldAddr rfl K.fT35_0) (by kernel_rfl) rfl rfl rfl ?_ | refine EA_not 4 rfl (by kernel_rfl) rfl rfl rfl ?_
        refine EA_still 5 [1000] rfl (R_load rfl K.ag3 (hc5.cell rfl)) rfl (by kernel_rfl) (by kernel_rfl) rfl rfl rfl ?_
        first | refine EA_pure 6 rfl (fun _ => R_move rfl) (by kernel_rfl) rfl rfl rfl ?_ | refine EA_not 6 rfl (by kernel_rfl) rfl rfl rfl ?_
        first | refine EA_pure 7 rfl (fun _ => R_nilCheck rfl) (by kernel_rfl) rfl rfl rfl ?_ | refine EA_not 7 rfl (by kernel_rfl) rfl rfl rfl ?_
        first | refine EA_pure 8 rfl (fun _ => R_fieldAddr rfl K.fT70_1) (by kernel_rfl) rfl rfl rfl ?_ | refine EA_not 8 rfl (by kernel_rfl) rfl rfl rfl ?_
        refine EA_still 9 [1000] rfl (R_load rfl K.ag68 (((h.no hm).no (hn3.mods.trans' (hu4.mods.trans' hm5 (fun _ _ hh => hh.elim)) fun i hi hh => by omega)).cRow)) rfl (by kernel_rfl) (by kernel_rfl) rfl rfl rfl ?_
        first | refine EA_pure 10 rfl (fun _ => R_lenSlice rfl Try.underlying68) (by kernel_rfl) rfl rfl rfl ?_ | refine EA_not 10 rfl (by kernel_rfl) rfl rfl rfl ?_
        first | refine EA_pure 11 rfl (fun _ => R_geq_t rfl rfl (by omega)) (by kernel_rfl) rfl rfl rfl ?_ | refine EA_pure 11 rfl (fun _ => R_geq_f rfl rfl (by omega)) (by kernel_rfl) rfl rfl rfl ?_ | refine EA_not 11 rfl (by kernel_rfl) rfl rfl rfl ?_
        first | refine EA_pure 12 rfl (fun _ => R_pick_t rfl rfl) (by kernel_rfl) rfl rfl rfl ?_ | refine EA_pure 12 rfl (fun _ => R_pick_f rfl rfl) (by kernel_rfl) rfl rfl rfl ?_
        refine EA_done (by kernel_rfl) ⟨fun _ => rfl, trivial⟩ ?_
        refine E_cond_f rfl ?_
        refine E_skip ?_
        refine inB_n ?_
        refine thenQ_n ?_
        refine E_region ?_
        first | refine EL_val (R_inc rfl (by omega)) rfl rfl rfl ?_ | refine EL_val (R_add_in rfl rfl (by omega) (by omega)) rfl rfl rfl ?_
        refine EL_val (R_move rfl) rfl rfl rfl ?_
        refine EL_nil ?_
        refine thenQ_n ?_
        refine ⟨rfl, L.length - (i + 1), [(0, ptr d), (1, .slice (some ⟨g2, i2, none⟩) L.length c), (30, .slice (some ⟨g2, i2, none⟩) L.length c), (31, .int .i64 (L.length : Int)), (32, .int .i64 ((i + 1 : Nat) : Int))], by omega, ⟨rfl, rfl, rfl, rfl, rfl, trivial⟩, i + 1, by omega, rfl, rfl, ?_, fun k hk hki => ?_⟩
        · exact (hm.trans' (hn3.mods.trans' hu4.mods fun i hi hh => by omega) fun i hi hh => hh).trans hm5
        · by_cases hki' : k = i
          · subst hki'; exact ⟨by omega, by omega⟩
          · exact hall k hk (by omega)
  have hin : badAt S.n L = false := by
    cases hb : badAt S.n L
    · rfl
    · obtain ⟨k, hk, hq⟩ := badAt_first hb
      have := hall k hk (by omega)
      omega
  clear hall
  have hP : putS S L = putL S L := by simp [putS, ho, hgood, hin]
  rw [hP]

  refine E_seqR ?_
  first | refine EL_val (R_lss_t rfl rfl (by omega)) rfl rfl rfl ?_ | refine EL_val (R_lss_f rfl rfl (by omega)) rfl rfl rfl ?_
  refine EL_nil ?_
  refine E_seq ?_
  refine E_cond_f rfl ?_
  refine E_exit ?_
  refine thenQ_e ?_
  refine thenQ_e ?_
  refine inB_eq rfl ?_
  refine thenQ_n ?_
  refine E_seq ?_
  refine E_seqR ?_
  refine EL_val (R_move rfl) rfl rfl rfl ?_
  refine EL_val (R_lenSlice rfl Try.underlying42) rfl rfl rfl ?_
  refine EL_val (R_move rfl) rfl rfl rfl ?_
  refine EL_nil ?_
  refine E_block ?_
  refine E_loop (fun m' e' w'' => ∃ i C' ov' S', i ≤ L.length ∧ m' = L.length - i ∧ e' = [(0, ptr d), (1, .slice (A) L.length c), (50, .slice (A) L.length c), (51, .int .i64 (L.length : Int)), (52, .int .i64 ((i : Nat) : Int))] ∧ DiskAt w'' B d g C' ov' S' ∧ DM B w w'' ∧ putL S L = putL S' (L.drop i) ∧ S'.n = S.n ∧ ∀ j, (S'.opn j).length ≤ (S.opn j).length + i) L.length [(0, ptr d), (1, .slice (A) L.length c), (50, .slice (A) L.length c), (51, .int .i64 (L.length : Int)), (52, .int .i64 ((0 : Nat) : Int))] ⟨rfl, rfl, rfl, rfl, rfl, trivial⟩
    ⟨0, C, ov, S, by omega, by omega, rfl, h.no hm, DM.of_no hm, rfl, rfl, fun j => by omega⟩ ?_
  clear hm
  rintro m' e w' ⟨i, C', ov', S', hi, rfl, rfl, hD, hm, hput, hSn, hlen⟩
  by_cases hlt : i < L.length
  · have hw' := hw.dm hm
    obtain ⟨g2, i2, hA, hf, hcell⟩ := hw'.2 (by omega)
    rw [hA]
    obtain ⟨Ad, cd, h1, h2, h3⟩ := hcell i hlt
    have h64 := badLen_no hgood i hlt
    obtain ⟨hat0, hat1⟩ := badAt_no hin i hlt
    rw [h64] at h2
    have hcs : Cells w' g2 (i2 + i * 2) #[.int .i64 L[i].1, .slice Ad 64 cd] := by
      intro j v hv
      match j, hv with
      | 0, hv => injection hv with hv; subst hv; exact h1
      | 1, hv => injection hv with hv; subst hv; exact h2
    have hdrop : L.drop i = (L[i].1, L[i].2) :: L.drop (i + 1) := by rw [List.drop_eq_getElem_cons hlt]
    rw [hdrop] at hput
    rcases spend_cases S' with hs | hs
    · obtain ⟨S1, hS1⟩ : ∃ S1, S1 = (spendS S').1 := ⟨_, rfl⟩
      have hop : S1.opn = S'.opn := by rw [hS1]; exact (spend_opn S').1
      have hS1n : S1.n = S.n := by rw [hS1, spend_n, hSn]
      obtain ⟨gd, id, rfl, hcd, hfd⟩ := h3 (by omega)
      have hm1 : L[i].1.toNat < S1.n := by omega
      have hsz : sizeOfT Try.prog 71 = some (bv L[i].2).size := by rw [bv_size, h64]; exact K.sz71
      have hlen1 : (S1.opn L[i].1.toNat).length + 1 ≤ 2199023255552 := by
        have h1 := hlen L[i].1.toNat
        have h2 := hroom L[i].1.toNat (by omega)
        rw [hop]
        omega
      have hput' : putL S L = putL { S1 with opn := fup S1.opn L[i].1.toNat (S1.opn L[i].1.toNat ++ [L[i].2]) } (L.drop (i + 1)) := by
        rw [hput, hS1]
        simp only [putL, hs, if_true]

      refine E_seqR ?_
      first | refine EL_val (R_lss_t rfl rfl (by omega)) rfl rfl rfl ?_ | refine EL_val (R_lss_f rfl rfl (by omega)) rfl rfl rfl ?_
      refine EL_nil ?_
      refine E_seq ?_
      refine E_cond_t rfl ?_
      refine E_skip ?_
      refine thenQ_n ?_
      refine E_seq ?_
      refine E_block ?_
      refine E_seqR ?_
      refine EL_val (R_indexAddr rfl rfl Try.underlying42 K.sz35 rfl (by omega)) rfl rfl rfl ?_
      refine EL_val (R_loadAgg rfl K.ag35 (hcs) (K.sz35)) rfl rfl rfl ?_
      refine EL_step rfl ?_
      refine EO_alloc K.zr35 rfl ?_
      intro w3 hn3
      refine EL_step rfl ?_
      refine EO_storeWhole hn3.bk rfl rfl K.sz35 rfl rfl ?_
      intro w4 hu4
      refine EL_nil ?_
      refine E_seq ?_
      refine E_seqR ?_
      refine EL_val (R_move rfl) rfl rfl rfl ?_
      refine EL_val (R_nilCheck rfl) rfl rfl rfl ?_
      refine EL_val (R_fieldAddr rfl K.fT70_0) rfl rfl rfl ?_
      refine EL_step rfl ?_
      refine EO_call K.bd31 rfl rfl (spend_ok (hD.no (hn3.mods.trans' hu4.mods fun i hi hh => by omega))) ?_
      rintro _ w5 ⟨rfl, h5, hm5⟩
      refine EL_val (R_assign rfl) rfl rfl rfl ?_
      refine EL_nil ?_
      refine E_seqR ?_
      refine EL_val (R_move rfl) rfl rfl rfl ?_
      first | refine EL_val (R_neq_t rfl rfl ((by rw [hs]; decide))) rfl rfl rfl ?_ | refine EL_val (R_neq_f rfl rfl ((by rw [hs]; decide))) rfl rfl rfl ?_
      refine EL_nil ?_
      refine E_cond_f rfl ?_
      refine E_skip ?_
      refine thenQ_n ?_
      refine E_seqD (fun w' => [(1000, fun w'' => w'' = w')]) 8 K.mix rfl ?_
      intro w6 hm6 hh6
      (rw [← hS1] at h5; have h6 := h5.no hm6; have hc6 := hm6.bk' (hm5.bk hu4.bk (by decide)); have hca6 : w6.cell? ⟨w'.heap.size, 0, none⟩ = some (.int .i64 L[i].1) := hc6.cell rfl)
      refine EA_pure 0 rfl (fun _ => R_move rfl) (by kernel_rfl) rfl rfl rfl ?_
      refine EA_pure 1 rfl (fun _ => R_nilCheck rfl) (by kernel_rfl) rfl rfl rfl ?_
      refine EA_pure 2 rfl (fun _ => R_fieldAddr rfl K.fT70_1) (by kernel_rfl) rfl rfl rfl ?_
      refine EA_still 3 [1000] rfl (R_load rfl K.ag68 (h6.cRow)) rfl (by kernel_rfl) (by kernel_rfl) rfl rfl rfl ?_
      refine EA_pure 4 rfl (fun _ => R_fieldAddr rfl K.fT35_0) (by kernel_rfl) rfl rfl rfl ?_
      refine EA_still 5 [1000] rfl (R_load rfl K.ag3 (hca6)) rfl (by kernel_rfl) (by kernel_rfl) rfl rfl rfl ?_
      refine EA_pure 6 rfl (fun _ => R_indexAddr rfl rfl Try.underlying68 K.sz74 (m := L[i].1.toNat) (Int.toNat_of_nonneg hat0).symm hm1) (by kernel_rfl) rfl rfl rfl ?_
      refine EA_pure 7 rfl (fun _ => R_assign rfl) (by kernel_rfl) rfl rfl rfl ?_
      refine EA_done (by kernel_rfl) ⟨fun _ => rfl, trivial⟩ ?_
      refine E_regionD (fun _ => [(10, fun W => W.cell? ⟨g, 0 + L[i].1.toNat * 65 + 64, none⟩ = some (ov' L[i].1.toNat)), (9, fun W => W.cell? ⟨w'.heap.size, 0 + 1, none⟩ = some (.slice (some ⟨gd, id, none⟩) 64 cd)), (9, fun W => Cells W gd id (bv L[i].2))]) 14 K.mix rfl ?_
      intro w7 hm7 hh7
      (have h7 := h6.no hm7; have hc7 := hm7.bk' hc6; have hdm : DM B w' w7 := ((DM.of_no (hn3.mods.trans' hu4.mods fun i hi hh => by omega)).trans hm5).trans (DM.of_no (hm6.trans hm7)))
      refine EA_pure 0 rfl (fun _ => R_move rfl) (by kernel_rfl) rfl rfl rfl ?_
      refine EA_pure 1 rfl (fun _ => R_move rfl) (by kernel_rfl) rfl rfl rfl ?_
      refine EA_pure 2 rfl (fun _ => R_nilCheck rfl) (by kernel_rfl) rfl rfl rfl ?_
      refine EA_pure 3 rfl (fun _ => R_fieldAddr rfl K.fT74_1) (by kernel_rfl) rfl rfl rfl ?_
      refine EA_load 4 0 [10, 11, 12, 13] rfl rfl K.ag72 rfl (by kernel_rfl) (by kernel_rfl) rfl rfl ?_
      refine EA_pure 5 rfl (fun _ => R_fieldAddr rfl K.fT35_1) (by kernel_rfl) rfl rfl rfl ?_
      refine EA_load 6 1 [7, 8, 9, 10, 11, 12, 13] rfl rfl K.ag23 rfl (by kernel_rfl) (by kernel_rfl) rfl rfl ?_
      refine EA_pure 7 rfl (fun _ => R_arrPtr rfl Try.underlying71 (by omega)) (by kernel_rfl) rfl rfl rfl ?_
      refine EA_loadAgg 8 2 [9, 10, 11, 12, 13] rfl rfl K.ag71 rfl hsz (by kernel_rfl) (by kernel_rfl) rfl rfl ?_
      refine EA_one 9 rfl (by kernel_rfl) rfl ⟨fun _ => h7.hg.cell (by rw [Nat.zero_add]; exact h7.row _ hm1), fun _ => hc7.cell rfl, fun _ => Mods.cells hdm hcd hfd, trivial⟩ ?_
      refine EO_buildSlice Try.underlying72 K.zr71 K.sz71 rfl rfl rfl (fill_whole (by show (bv L[i].2).size = 64; rw [bv_size, h64]) (by rw [size_madeCells])) rfl ?_
      intro w8 hn8
      (have h8 := h7.no hn8.mods)
      refine EA_one 10 rfl (by kernel_rfl) rfl ⟨fun _ => h8.hg.cell (by rw [Nat.zero_add]; exact h8.row _ hm1), kl (by kernel_rfl), kl (by kernel_rfl), trivial⟩ ?_
      refine EO_append rfl rfl Try.underlying72 K.sz71 K.zr71 K.by71 rfl (by decide) (h8.opn _ hm1).2 (Src.bk hn8.bk 1 64 (bv L[i].2).toList (by simp [bv_size, h64]) (fun j v hv => by rw [Nat.zero_add]; show (bv L[i].2)[j]? = _; simpa using hv)) (fun u hu => bv_one u (by simpa using hu)) (by simp only [maxLen]; omega) (by omega) (by have := hm.size; have := hn3.size; have := hu4.size; have := hm5.size; have := hm6.size; have := hm7.size; have := hn8.size; omega) rfl ?_
      intro v9 w9 ho9 hm9 hat9
      (obtain ⟨g9, cap9, cur9, rfl, hb9, hbk9, _⟩ := own_form ho9 (by omega))
      refine EA_pure 11 rfl (fun _ => R_nilCheck rfl) (by kernel_rfl) rfl rfl rfl ?_
      refine EA_pure 12 rfl (fun _ => R_fieldAddr rfl K.fT74_1) (by kernel_rfl) rfl rfl rfl ?_
      refine EA_one 13 rfl (by kernel_rfl) rfl (Holds.done (by kernel_rfl)) ?_
      refine EO_store1 rfl rfl K.sz72 rfl (Mods.bk hm9 h8.hg (fun hh => h8.g_ne_own hm1 hh)) (by have := h8.size; omega) ?_
      intro w10 hu10
      refine EA_done (by kernel_rfl) (Holds.done (by kernel_rfl)) ?_
      refine inB_n ?_
      refine thenQ_n ?_
      refine E_region ?_
      first | refine EL_val (R_inc rfl (by omega)) rfl rfl rfl ?_ | refine EL_val (R_add_in rfl rfl (by omega) (by omega)) rfl rfl rfl ?_
      refine EL_val (R_move rfl) rfl rfl rfl ?_
      refine EL_nil ?_
      refine thenQ_n ?_
      have hown : w9.ownsRow B 71 64 (.slice (some ⟨g9, 0, none⟩) ((S1.opn L[i].1.toNat).length + 1) cap9) (S1.opn L[i].1.toNat ++ [L[i].2]).length (rows (S1.opn L[i].1.toNat ++ [L[i].2])) := by
        rw [rows_append, List.length_append]
        simpa [rows] using ho9
      have hC8 := h8.size
      have h10 := h8.setBlk hm1 hm9 hu10 (l := S1.last L[i].1.toNat) (v := .slice (some ⟨g9, 0, none⟩) ((S1.opn L[i].1.toNat).length + 1) cap9) (os := S1.opn L[i].1.toNat ++ [L[i].2]) (h8.last _ hm1).1 (by simp) ?_ ?_ ?_ ?_ hown ?_
      · rw [fup_self] at h10
        refine ⟨rfl, L.length - (i + 1), [(0, ptr d), (1, .slice (some ⟨g2, i2, none⟩) L.length c), (50, .slice (some ⟨g2, i2, none⟩) L.length c), (51, .int .i64 (L.length : Int)), (52, .int .i64 ((i + 1 : Nat) : Int))], by omega, ⟨rfl, rfl, rfl, rfl, rfl, trivial⟩, i + 1, _, _, _, by omega, rfl, rfl, h10, ?_, hput', hS1n, fun j => ?_⟩
        · refine ((hm.trans hdm).trans (DM.of_no hn8.mods)).trans ((Mods.mono hm9 fun k _ hk => ?_).trans' hu10.mods fun k _ hk => ?_)
          · obtain ⟨hk1, cur, hk2⟩ := h8.ownBk hm1 hk.symm
            exact ⟨hk1, cur, _, hk2, .inr (.inr rfl)⟩
          · subst hk; exact ⟨h8.Bg, _, _, h8.hg, .inr (.inl rfl)⟩
        · have h1 := hlen j
          show (fup S1.opn L[i].1.toNat (S1.opn L[i].1.toNat ++ [L[i].2]) j).length ≤ _
          by_cases hj : j = L[i].1.toNat
          · subst hj
            rw [fup_at, hop, List.length_append]
            simp only [List.length_cons, List.length_nil]
            omega
          · rw [fup_ne _ _ hj, hop]
            omega
      · intro j u hu
        have hj : j < 64 := by
          have := (Array.getElem?_eq_some_iff.1 hu).1
          rw [bv_size, (h8.last _ hm1).1] at this
          exact this
        rw [Array.getElem?_setIfInBounds_ne (by omega)]
        exact (h8.last _ hm1).2 j u hu
      · rw [Nat.zero_add, Array.getElem?_setIfInBounds_self_of_lt (by omega)]
      · intro j hj
        rw [Array.getElem?_setIfInBounds_ne (by omega)]
      · intro b hb
        rw [List.mem_append] at hb
        rcases hb with hb | hb
        · exact (h8.opn _ hm1).1 b hb
        · rw [List.mem_singleton] at hb; rw [hb]; exact h64
      · rcases hat9 with hat9 | hat9
        · exact .inl hat9
        · exact .inr (.inr ⟨_, hat9, Nat.le_refl _⟩)
    · have hP3 : putL S L = ((spendS S').1, 8) := by rw [hput]; simp [putL, hs]
      rw [hP3]

      refine E_seqR ?_
      first | refine EL_val (R_lss_t rfl rfl (by omega)) rfl rfl rfl ?_ | refine EL_val (R_lss_f rfl rfl (by omega)) rfl rfl rfl ?_
      refine EL_nil ?_
      refine E_seq ?_
      refine E_cond_t rfl ?_
      refine E_skip ?_
      refine thenQ_n ?_
      refine E_seq ?_
      refine E_block ?_
      refine E_seqR ?_
      refine EL_val (R_indexAddr rfl rfl Try.underlying42 K.sz35 rfl (by omega)) rfl rfl rfl ?_
      refine EL_val (R_loadAgg rfl K.ag35 (hcs) (K.sz35)) rfl rfl rfl ?_
      refine EL_step rfl ?_
      refine EO_alloc K.zr35 rfl ?_
      intro w3 hn3
      refine EL_step rfl ?_
      refine EO_storeWhole hn3.bk rfl rfl K.sz35 rfl rfl ?_
      intro w4 hu4
      refine EL_nil ?_
      refine E_seq ?_
      refine E_seqR ?_
      refine EL_val (R_move rfl) rfl rfl rfl ?_
      refine EL_val (R_nilCheck rfl) rfl rfl rfl ?_
      refine EL_val (R_fieldAddr rfl K.fT70_0) rfl rfl rfl ?_
      refine EL_step rfl ?_
      refine EO_call K.bd31 rfl rfl (spend_ok (hD.no (hn3.mods.trans' hu4.mods fun i hi hh => by omega))) ?_
      rintro _ w5 ⟨rfl, h5, hm5⟩
      refine EL_val (R_assign rfl) rfl rfl rfl ?_
      refine EL_nil ?_
      refine E_seqR ?_
      refine EL_val (R_move rfl) rfl rfl rfl ?_
      first | refine EL_val (R_neq_t rfl rfl ((by rw [hs]; decide))) rfl rfl rfl ?_ | refine EL_val (R_neq_f rfl rfl ((by rw [hs]; decide))) rfl rfl rfl ?_
      refine EL_nil ?_
      refine E_cond_t rfl ?_
      refine E_seqR ?_
      refine EL_val (R_move rfl) rfl rfl rfl ?_
      refine EL_val (R_assign rfl) rfl rfl rfl ?_
      refine EL_nil ?_
      refine E_ret ?_
      refine thenQ_r (inB_r (thenQ_r (thenQ_r (inB_r (thenQ_r ?_)))))
      refine ret1 (.inr rfl) rfl rfl ?_
      exact ⟨by rw [hs], ⟨g, C', ov', h5⟩, (hm.trans (DM.of_no (hn3.mods.trans' hu4.mods fun i hi hh => by omega))).trans hm5⟩
  · have hi' : i = L.length := by omega
    subst hi'
    rw [List.drop_length] at hput

    refine E_seqR ?_
    first | refine EL_val (R_lss_t rfl rfl (by omega)) rfl rfl rfl ?_ | refine EL_val (R_lss_f rfl rfl (by omega)) rfl rfl rfl ?_
    refine EL_nil ?_
    refine E_seq ?_
    refine E_cond_f rfl ?_
    refine E_exit ?_
    refine thenQ_e ?_
    refine thenQ_e ?_
    refine inB_eq rfl ?_
    refine thenQ_n ?_
    refine E_seqR ?_
    refine EL_val (R_assign rfl) rfl rfl rfl ?_
    refine EL_nil ?_
    refine E_ret ?_
    refine ret1 (.inr rfl) rfl rfl ?_
    rw [hput]
    exact ⟨rfl, ⟨g, C', ov', hD⟩, hm⟩
end Go.Proofs.Ytobhogdndfbniaa
