/- The log's blocks read (package log). -/
import Derived.Test.YtobhogdndfbniaaLogB
set_option linter.unusedVariables false
set_option linter.unusedSimpArgs false
set_option maxRecDepth 100000
namespace Go.Proofs.Ytobhogdndfbniaa
open Go.EW Go.RowKit

def dSeq (l : List UInt8) : Int := (leN ((l.drop 4).take 4) : Int)
def dTo (l : List UInt8) : List Int := numsS l 10 2 (l.getD 8 0).toNat
/-- the descriptor that a block is -/
def beginsS (l : List UInt8) : Option (Int × List Int) := if sealedS l && decide ((l.getD 8 0).toNat ≤ 20) && soundS (dSeq l) (dTo l) && decide (beginB (dSeq l) (dTo l) = l) then some (dSeq l, dTo l) else none
def endsS (l : List UInt8) : Option (Int × Int) := if sealedS l && endOk (dSeq l) ((l.getD 8 0).toNat : Int) && decide (endB (dSeq l) ((l.getD 8 0).toNat : Int) = l) then some (dSeq l, ((l.getD 8 0).toNat : Int)) else none
def beginsP (l : List UInt8) (w : World) (v : Value) (w' : World) : Prop :=
  (match beginsS l with
  | none => v = .tuple #[.agg #[.int .i64 0, .slice none 0 0], .int .i64 2]
  | some (s, ks) => ∃ u, v = .tuple #[.agg #[.int .i64 s, u], .int .i64 0] ∧ w'.ownsRow w.heap.size 3 1 u ks.length (ival ks)) ∧ Mods No w w'
theorem endB_length (s n : Int) : (endB s n).length = 64 := by
  have h : (setS (setS ([68, 79, 78, 69] ++ zerosB 60) 4 4 [s]) 8 1 [n]).length = 64 := by
    unfold setS
    rw [setN_length _ (by rw [setN_length _ (by simp [zerosB])]; simp [zerosB]), setN_length _ (by simp [zerosB])]
    simp [zerosB]
  exact sealS_length h
theorem ends_ok {w : World} {A : Option Addr} {l : List UInt8} {c : Nat} (hl : BS w A l) (hc : l.length ≤ c) (hm : l.length ≤ 1048576) :
    Ret Try.prog 58 [.slice A l.length c] w fun v w' => (match endsS l with
      | none => v = .tuple #[.int .i64 0, .int .i64 0, .int .i64 2]
      | some (s, n) => v = .tuple #[.int .i64 s, .int .i64 n, .int .i64 0]) ∧ Mods No w w' := by
  cases hs : sealedS l
  · have e : endsS l = none := by simp [endsS, hs]
    rw [e]
    refine Ret.enter Try.func58 rfl Try.ntmps58 rfl ?_
    simp only [argEnv, Nat.reduceAdd]
    refine E_seqR ?_
    refine EL_val (R_assign rfl) rfl rfl rfl ?_
    refine EL_val (R_assign rfl) rfl rfl rfl ?_
    refine EL_val (R_assign rfl) rfl rfl rfl ?_
    refine EL_nil ?_
    refine E_seq ?_
    refine E_seqR ?_
    refine EL_val (R_move rfl) rfl rfl rfl ?_
    refine EL_step rfl ?_
    refine EO_call K.bd51 rfl rfl ((by have := sealed_ok hl hc (by omega); rw [hs] at this; exact this)) ?_
    rintro _ w1 ⟨rfl, hm1⟩
    refine EL_val (R_not rfl) rfl rfl rfl ?_
    refine EL_nil ?_
    refine E_cond_t rfl ?_
    refine E_seqR ?_
    refine EL_val (R_assign rfl) rfl rfl rfl ?_
    refine EL_val (R_assign rfl) rfl rfl rfl ?_
    refine EL_val (R_assign rfl) rfl rfl rfl ?_
    refine EL_nil ?_
    refine E_ret ?_
    refine thenQ_r ?_
    refine ret3 (.inr rfl) rfl rfl rfl rfl ?_
    exact ⟨rfl, hm1⟩
  · have h64 : l.length = 64 := by
      unfold sealedS at hs
      simp only [Bool.and_eq_true, decide_eq_true_eq] at hs
      exact hs.1
    obtain ⟨g, o, rfl⟩ := hl.addr (by omega)
    obtain ⟨x, hx⟩ : ∃ x : Nat, x = (l.getD 8 0).toNat := ⟨_, rfl⟩
    have hx256 : x < 256 := by rw [hx]; exact (l.getD 8 0).toNat_lt
    have hc8 : w.cell? ⟨g, o + 8 * 1, none⟩ = some (.int .u8 (x : Int)) := by
      obtain ⟨g', o', hA, hcc⟩ := hl.cell (i := 8) (by omega)
      injection hA with hA
      injection hA with h1 h2 _
      subst h1; subst h2
      rw [hx, List.getD_eq_getElem?_getD, List.getElem?_eq_getElem (by omega)]
      exact hcc
    have hnum := fun w1 (hm1 : Mods No w w1) => num_ok (a := 4) (size := 4) (hl.no hm1) hc (by omega) (by omega) (by omega) hm
    have heq : endsS l = if endOk (dSeq l) (x : Int) && decide (endB (dSeq l) (x : Int) = l) then some (dSeq l, (x : Int)) else none := by
      unfold endsS
      rw [hs, ← hx, Bool.true_and]
    obtain ⟨s, hsq⟩ : ∃ s, s = dSeq l := ⟨_, rfl⟩
    have hs' : (leN ((l.drop 4).take 4) : Int) = s := hsq.symm
    rw [← hsq] at heq
    cases he : endOk s (x : Int)
    · have e : endsS l = none := by rw [heq, he]; rfl
      rw [e]
      refine Ret.enter Try.func58 rfl Try.ntmps58 rfl ?_
      simp only [argEnv, Nat.reduceAdd]
      refine E_seqR ?_
      refine EL_val (R_assign rfl) rfl rfl rfl ?_
      refine EL_val (R_assign rfl) rfl rfl rfl ?_
      refine EL_val (R_assign rfl) rfl rfl rfl ?_
      refine EL_nil ?_
      refine E_seq ?_
      refine E_seqR ?_
      refine EL_val (R_move rfl) rfl rfl rfl ?_
      refine EL_step rfl ?_
      refine EO_call K.bd51 rfl rfl ((by have := sealed_ok hl hc (by omega); rw [hs] at this; exact this)) ?_
      rintro _ w1 ⟨rfl, hm1⟩
      refine EL_val (R_not rfl) rfl rfl rfl ?_
      refine EL_nil ?_
      refine E_cond_f rfl ?_
      refine E_skip ?_
      refine thenQ_n ?_
      refine E_seqD (fun _ => [(7, fun W => W.cell? ⟨g, o + 8 * 1, none⟩ = some (.int .u8 (x : Int)))]) 8 K.mix rfl ?_
      intro w2 hm2 hh2
      (have hmm := hm1.trans hm2)
      refine EA_pure 0 rfl (fun _ => R_move rfl) (by kernel_rfl) rfl rfl rfl ?_
      refine EA_pure 2 rfl (fun _ => R_move rfl) (by kernel_rfl) rfl rfl rfl ?_
      refine EA_pure 3 rfl (fun _ => R_indexAddr rfl rfl Try.underlying23 K.sz5 (m := 8) rfl (by omega)) (by kernel_rfl) rfl rfl rfl ?_
      refine EA_load 4 0 [5, 7] rfl rfl K.ag5 rfl (by kernel_rfl) (by kernel_rfl) rfl rfl ?_
      refine EA_pure 5 rfl (fun _ => R_convInt (x : Int) (wrap_i64_in (by omega) (by omega)) rfl Try.underlying5 Try.underlying3) (by kernel_rfl) rfl rfl rfl ?_
      refine EA_one 1 rfl (by kernel_rfl) rfl ⟨fun _ => hmm.cell hc8 id, trivial⟩ ?_
      refine EO_call K.bd52 rfl rfl ((by have := hnum _ hmm; rw [hs'] at this; exact this)) ?_
      rintro _ _ ⟨rfl, rfl⟩
      refine EA_pure 6 rfl (fun _ => R_assign rfl) (by kernel_rfl) rfl rfl rfl ?_
      refine EA_one 7 rfl (by kernel_rfl) rfl ⟨fun _ => hmm.cell hc8 id, trivial⟩ ?_
      first | refine EO_val (R_assign rfl) rfl rfl ?_
      skip
      refine EA_done (by kernel_rfl) (Holds.done (by kernel_rfl)) ?_
      refine E_seq ?_
      refine E_seqR ?_
      refine EL_val (R_move rfl) rfl rfl rfl ?_
      refine EL_val (R_move rfl) rfl rfl rfl ?_
      refine EL_step rfl ?_
      refine EO_call K.bd22 rfl rfl ((by have := end_ok (w := w2) (s := s) (n := (x : Int)); rw [he] at this; exact this)) ?_
      rintro _ w3 ⟨rfl, hm3⟩
      refine EL_val (R_move rfl) rfl rfl rfl ?_
      refine EL_val (R_extract rfl rfl) rfl rfl rfl ?_
      refine EL_val (R_extract rfl rfl) rfl rfl rfl ?_
      refine EL_val (R_assign rfl) rfl rfl rfl ?_
      refine EL_val (R_assign rfl) rfl rfl rfl ?_
      refine EL_nil ?_
      refine E_seqR ?_
      refine EL_val (R_move rfl) rfl rfl rfl ?_
      first | refine EL_val (R_neq_t rfl rfl (by omega)) rfl rfl rfl ?_ | refine EL_val (R_neq_f rfl rfl (by omega)) rfl rfl rfl ?_
      refine EL_val (R_move rfl) rfl rfl rfl ?_
      first | refine EL_val (R_move rfl) rfl rfl rfl ?_ | refine EL_not rfl rfl rfl ?_
      first | refine EL_val (R_move rfl) rfl rfl rfl ?_ | refine EL_not rfl rfl rfl ?_
      refine EL_not rfl rfl rfl ?_
      first | refine EL_val (R_not rfl) rfl rfl rfl ?_ | refine EL_not rfl rfl rfl ?_
      first | refine EL_val (R_pick_t rfl rfl) rfl rfl rfl ?_ | refine EL_val (R_pick_f rfl rfl) rfl rfl rfl ?_
      refine EL_nil ?_
      refine E_cond_t rfl ?_
      refine E_seqR ?_
      refine EL_val (R_assign rfl) rfl rfl rfl ?_
      refine EL_val (R_assign rfl) rfl rfl rfl ?_
      refine EL_val (R_assign rfl) rfl rfl rfl ?_
      refine EL_nil ?_
      refine E_ret ?_
      refine thenQ_r ?_
      refine ret3 (.inr rfl) rfl rfl rfl rfl ?_
      exact ⟨rfl, hmm.trans hm3⟩
    · by_cases hb : endB s (x : Int) = l
      · have e : endsS l = some (s, (x : Int)) := by rw [heq, he]; simp [hb]
        rw [e]
        refine Ret.enter Try.func58 rfl Try.ntmps58 rfl ?_
        simp only [argEnv, Nat.reduceAdd]
        refine E_seqR ?_
        refine EL_val (R_assign rfl) rfl rfl rfl ?_
        refine EL_val (R_assign rfl) rfl rfl rfl ?_
        refine EL_val (R_assign rfl) rfl rfl rfl ?_
        refine EL_nil ?_
        refine E_seq ?_
        refine E_seqR ?_
        refine EL_val (R_move rfl) rfl rfl rfl ?_
        refine EL_step rfl ?_
        refine EO_call K.bd51 rfl rfl ((by have := sealed_ok hl hc (by omega); rw [hs] at this; exact this)) ?_
        rintro _ w1 ⟨rfl, hm1⟩
        refine EL_val (R_not rfl) rfl rfl rfl ?_
        refine EL_nil ?_
        refine E_cond_f rfl ?_
        refine E_skip ?_
        refine thenQ_n ?_
        refine E_seqD (fun _ => [(7, fun W => W.cell? ⟨g, o + 8 * 1, none⟩ = some (.int .u8 (x : Int)))]) 8 K.mix rfl ?_
        intro w2 hm2 hh2
        (have hmm := hm1.trans hm2)
        refine EA_pure 0 rfl (fun _ => R_move rfl) (by kernel_rfl) rfl rfl rfl ?_
        refine EA_pure 2 rfl (fun _ => R_move rfl) (by kernel_rfl) rfl rfl rfl ?_
        refine EA_pure 3 rfl (fun _ => R_indexAddr rfl rfl Try.underlying23 K.sz5 (m := 8) rfl (by omega)) (by kernel_rfl) rfl rfl rfl ?_
        refine EA_load 4 0 [5, 7] rfl rfl K.ag5 rfl (by kernel_rfl) (by kernel_rfl) rfl rfl ?_
        refine EA_pure 5 rfl (fun _ => R_convInt (x : Int) (wrap_i64_in (by omega) (by omega)) rfl Try.underlying5 Try.underlying3) (by kernel_rfl) rfl rfl rfl ?_
        refine EA_one 1 rfl (by kernel_rfl) rfl ⟨fun _ => hmm.cell hc8 id, trivial⟩ ?_
        refine EO_call K.bd52 rfl rfl ((by have := hnum _ hmm; rw [hs'] at this; exact this)) ?_
        rintro _ _ ⟨rfl, rfl⟩
        refine EA_pure 6 rfl (fun _ => R_assign rfl) (by kernel_rfl) rfl rfl rfl ?_
        refine EA_one 7 rfl (by kernel_rfl) rfl ⟨fun _ => hmm.cell hc8 id, trivial⟩ ?_
        first | refine EO_val (R_assign rfl) rfl rfl ?_
        skip
        refine EA_done (by kernel_rfl) (Holds.done (by kernel_rfl)) ?_
        refine E_seq ?_
        refine E_seqR ?_
        refine EL_val (R_move rfl) rfl rfl rfl ?_
        refine EL_val (R_move rfl) rfl rfl rfl ?_
        refine EL_step rfl ?_
        refine EO_call K.bd22 rfl rfl ((by have := end_ok (w := w2) (s := s) (n := (x : Int)); rw [he] at this; exact this)) ?_
        rintro _ w3 ⟨⟨u, rfl, ho⟩, hm3⟩
        (obtain ⟨gu, cu, rfl, _, _, _, _, hbu⟩ := ho.form (by rw [endB_length]; omega))
        refine EL_val (R_move rfl) rfl rfl rfl ?_
        refine EL_val (R_extract rfl rfl) rfl rfl rfl ?_
        refine EL_val (R_extract rfl rfl) rfl rfl rfl ?_
        refine EL_val (R_assign rfl) rfl rfl rfl ?_
        refine EL_val (R_assign rfl) rfl rfl rfl ?_
        refine EL_nil ?_
        refine E_seqR ?_
        refine EL_val (R_move rfl) rfl rfl rfl ?_
        first | refine EL_val (R_neq_t rfl rfl (by omega)) rfl rfl rfl ?_ | refine EL_val (R_neq_f rfl rfl (by omega)) rfl rfl rfl ?_
        refine EL_val (R_move rfl) rfl rfl rfl ?_
        first | refine EL_val (R_move rfl) rfl rfl rfl ?_ | refine EL_not rfl rfl rfl ?_
        first | refine EL_val (R_move rfl) rfl rfl rfl ?_ | refine EL_not rfl rfl rfl ?_
        refine EL_step rfl ?_
        refine EO_call K.bd53 rfl rfl (ret_t (bequal_ok hbu (hl.no (hmm.trans hm3))) (decide_eq_true hb)) ?_
        rintro _ _ ⟨rfl, rfl⟩
        first | refine EL_val (R_not rfl) rfl rfl rfl ?_ | refine EL_not rfl rfl rfl ?_
        first | refine EL_val (R_pick_t rfl rfl) rfl rfl rfl ?_ | refine EL_val (R_pick_f rfl rfl) rfl rfl rfl ?_
        refine EL_nil ?_
        refine E_cond_f rfl ?_
        refine E_skip ?_
        refine thenQ_n ?_
        refine E_seqR ?_
        refine EL_val (R_move rfl) rfl rfl rfl ?_
        refine EL_val (R_move rfl) rfl rfl rfl ?_
        refine EL_val (R_assign rfl) rfl rfl rfl ?_
        refine EL_val (R_assign rfl) rfl rfl rfl ?_
        refine EL_val (R_assign rfl) rfl rfl rfl ?_
        refine EL_nil ?_
        refine E_ret ?_
        refine ret3 (.inr rfl) rfl rfl rfl rfl ?_
        exact ⟨rfl, hmm.trans hm3⟩
      · have e : endsS l = none := by rw [heq, he]; simp [hb]
        rw [e]
        refine Ret.enter Try.func58 rfl Try.ntmps58 rfl ?_
        simp only [argEnv, Nat.reduceAdd]
        refine E_seqR ?_
        refine EL_val (R_assign rfl) rfl rfl rfl ?_
        refine EL_val (R_assign rfl) rfl rfl rfl ?_
        refine EL_val (R_assign rfl) rfl rfl rfl ?_
        refine EL_nil ?_
        refine E_seq ?_
        refine E_seqR ?_
        refine EL_val (R_move rfl) rfl rfl rfl ?_
        refine EL_step rfl ?_
        refine EO_call K.bd51 rfl rfl ((by have := sealed_ok hl hc (by omega); rw [hs] at this; exact this)) ?_
        rintro _ w1 ⟨rfl, hm1⟩
        refine EL_val (R_not rfl) rfl rfl rfl ?_
        refine EL_nil ?_
        refine E_cond_f rfl ?_
        refine E_skip ?_
        refine thenQ_n ?_
        refine E_seqD (fun _ => [(7, fun W => W.cell? ⟨g, o + 8 * 1, none⟩ = some (.int .u8 (x : Int)))]) 8 K.mix rfl ?_
        intro w2 hm2 hh2
        (have hmm := hm1.trans hm2)
        refine EA_pure 0 rfl (fun _ => R_move rfl) (by kernel_rfl) rfl rfl rfl ?_
        refine EA_pure 2 rfl (fun _ => R_move rfl) (by kernel_rfl) rfl rfl rfl ?_
        refine EA_pure 3 rfl (fun _ => R_indexAddr rfl rfl Try.underlying23 K.sz5 (m := 8) rfl (by omega)) (by kernel_rfl) rfl rfl rfl ?_
        refine EA_load 4 0 [5, 7] rfl rfl K.ag5 rfl (by kernel_rfl) (by kernel_rfl) rfl rfl ?_
        refine EA_pure 5 rfl (fun _ => R_convInt (x : Int) (wrap_i64_in (by omega) (by omega)) rfl Try.underlying5 Try.underlying3) (by kernel_rfl) rfl rfl rfl ?_
        refine EA_one 1 rfl (by kernel_rfl) rfl ⟨fun _ => hmm.cell hc8 id, trivial⟩ ?_
        refine EO_call K.bd52 rfl rfl ((by have := hnum _ hmm; rw [hs'] at this; exact this)) ?_
        rintro _ _ ⟨rfl, rfl⟩
        refine EA_pure 6 rfl (fun _ => R_assign rfl) (by kernel_rfl) rfl rfl rfl ?_
        refine EA_one 7 rfl (by kernel_rfl) rfl ⟨fun _ => hmm.cell hc8 id, trivial⟩ ?_
        first | refine EO_val (R_assign rfl) rfl rfl ?_
        skip
        refine EA_done (by kernel_rfl) (Holds.done (by kernel_rfl)) ?_
        refine E_seq ?_
        refine E_seqR ?_
        refine EL_val (R_move rfl) rfl rfl rfl ?_
        refine EL_val (R_move rfl) rfl rfl rfl ?_
        refine EL_step rfl ?_
        refine EO_call K.bd22 rfl rfl ((by have := end_ok (w := w2) (s := s) (n := (x : Int)); rw [he] at this; exact this)) ?_
        rintro _ w3 ⟨⟨u, rfl, ho⟩, hm3⟩
        (obtain ⟨gu, cu, rfl, _, _, _, _, hbu⟩ := ho.form (by rw [endB_length]; omega))
        refine EL_val (R_move rfl) rfl rfl rfl ?_
        refine EL_val (R_extract rfl rfl) rfl rfl rfl ?_
        refine EL_val (R_extract rfl rfl) rfl rfl rfl ?_
        refine EL_val (R_assign rfl) rfl rfl rfl ?_
        refine EL_val (R_assign rfl) rfl rfl rfl ?_
        refine EL_nil ?_
        refine E_seqR ?_
        refine EL_val (R_move rfl) rfl rfl rfl ?_
        first | refine EL_val (R_neq_t rfl rfl (by omega)) rfl rfl rfl ?_ | refine EL_val (R_neq_f rfl rfl (by omega)) rfl rfl rfl ?_
        refine EL_val (R_move rfl) rfl rfl rfl ?_
        first | refine EL_val (R_move rfl) rfl rfl rfl ?_ | refine EL_not rfl rfl rfl ?_
        first | refine EL_val (R_move rfl) rfl rfl rfl ?_ | refine EL_not rfl rfl rfl ?_
        refine EL_step rfl ?_
        refine EO_call K.bd53 rfl rfl (ret_f (bequal_ok hbu (hl.no (hmm.trans hm3))) (decide_eq_false hb)) ?_
        rintro _ _ ⟨rfl, rfl⟩
        first | refine EL_val (R_not rfl) rfl rfl rfl ?_ | refine EL_not rfl rfl rfl ?_
        first | refine EL_val (R_pick_t rfl rfl) rfl rfl rfl ?_ | refine EL_val (R_pick_f rfl rfl) rfl rfl rfl ?_
        refine EL_nil ?_
        refine E_cond_t rfl ?_
        refine E_seqR ?_
        refine EL_val (R_assign rfl) rfl rfl rfl ?_
        refine EL_val (R_assign rfl) rfl rfl rfl ?_
        refine EL_val (R_assign rfl) rfl rfl rfl ?_
        refine EL_nil ?_
        refine E_ret ?_
        refine thenQ_r ?_
        refine ret3 (.inr rfl) rfl rfl rfl rfl ?_
        exact ⟨rfl, hmm.trans hm3⟩
end Go.Proofs.Ytobhogdndfbniaa
