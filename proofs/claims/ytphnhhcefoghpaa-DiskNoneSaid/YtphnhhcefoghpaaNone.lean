/- 'drydocklaw07.DiskNone' returns true for every input; the arguments read as they did. -/
import Derived.Test.YtphnhhcefoghpaaAwake
import Derived.Test.YtphnhhcefoghpaaRows
import Derived.ProofKit
import Derived.ChangeOld
import Derived.OpenShut
set_option linter.unusedVariables false
set_option linter.unusedSimpArgs false
set_option maxRecDepth 100000
namespace Go.Proofs.Ytphnhhcefoghpaa
open Go.EW Go.RowKit Go.ChangeShapes Go.WideShapes Go.ChangeAt

theorem none_walk {w : World} (n : Int) (u v : Value) : Ret Try.prog 7 [.int .i64 n, u, v] w fun r w' => r = .bool true ∧ Below w.heap.size w w' := by
  refine Ret.enter Try.func7 rfl Try.ntmps7 rfl ?_
  simp only [argEnv, Nat.reduceAdd]
  refine E_seqR ?_
  refine EL_val (R_assign rfl) rfl rfl rfl ?_
  refine EL_nil ?_
  refine E_seqR ?_
  refine EL_val (R_assign rfl) rfl rfl rfl ?_
  refine EL_nil ?_
  refine E_seqR ?_
  refine EL_val (R_move rfl) rfl rfl rfl ?_
  refine EL_val (R_move rfl) rfl rfl rfl ?_
  refine EL_step rfl ?_
  refine EO_call K.bd19 rfl rfl (fail_nil) ?_
  rintro _ _ rfl
  refine EL_nil ?_
  refine E_seqR ?_
  refine EL_val (R_move rfl) rfl rfl rfl ?_
  refine EL_val (R_move rfl) rfl rfl rfl ?_
  refine EL_step rfl ?_
  refine EO_call K.bd11 rfl rfl (restart_nil) ?_
  rintro _ _ rfl
  refine EL_nil ?_
  refine E_seqR ?_
  refine EL_val (R_move rfl) rfl rfl rfl ?_
  refine EL_val (R_move rfl) rfl rfl rfl ?_
  refine EL_step rfl ?_
  refine EO_call K.bd12 rfl rfl (get_nil) ?_
  rintro _ _ ⟨rfl, rfl⟩
  refine EL_val (R_move rfl) rfl rfl rfl ?_
  refine EL_val (R_extract rfl rfl) rfl rfl rfl ?_
  refine EL_val (R_extract rfl rfl) rfl rfl rfl ?_
  refine EL_val (R_assign rfl) rfl rfl rfl ?_
  refine EL_val (R_assign rfl) rfl rfl rfl ?_
  refine EL_nil ?_
  refine E_seqR ?_
  refine EL_step rfl ?_
  refine EO_call K.bd9 rfl rfl (awake_ok) ?_
  rintro _ w1 ⟨rfl, hm1⟩
  refine EL_val (R_move rfl) rfl rfl rfl ?_
  first | refine EL_val (R_move rfl) rfl rfl rfl ?_ | refine EL_not rfl rfl rfl ?_
  first | refine EL_val (R_eql_t rfl rfl (by omega)) rfl rfl rfl ?_ | refine EL_val (R_eql_f rfl rfl (by omega)) rfl rfl rfl ?_ | refine EL_not rfl rfl rfl ?_
  first | refine EL_val (R_pick_t rfl rfl) rfl rfl rfl ?_ | refine EL_val (R_pick_f rfl rfl) rfl rfl rfl ?_
  refine EL_val (R_move rfl) rfl rfl rfl ?_
  first | refine EL_val (R_move rfl) rfl rfl rfl ?_ | refine EL_not rfl rfl rfl ?_
  first | refine EL_val (R_move rfl) rfl rfl rfl ?_ | refine EL_not rfl rfl rfl ?_
  refine EL_step rfl ?_
  refine EO_call K.bd10 rfl rfl (put_nil) ?_
  rintro _ _ ⟨rfl, rfl⟩
  first | refine EL_val (R_move rfl) rfl rfl rfl ?_ | refine EL_not rfl rfl rfl ?_
  first | refine EL_val (R_eql_t rfl rfl (by omega)) rfl rfl rfl ?_ | refine EL_val (R_eql_f rfl rfl (by omega)) rfl rfl rfl ?_ | refine EL_not rfl rfl rfl ?_
  first | refine EL_val (R_pick_t rfl rfl) rfl rfl rfl ?_ | refine EL_val (R_pick_f rfl rfl) rfl rfl rfl ?_
  refine EL_val (R_move rfl) rfl rfl rfl ?_
  first | refine EL_val (R_move rfl) rfl rfl rfl ?_ | refine EL_not rfl rfl rfl ?_
  refine EL_step rfl ?_
  refine EO_call K.bd14 rfl rfl (barrier_nil) ?_
  rintro _ _ ⟨rfl, rfl⟩
  first | refine EL_val (R_move rfl) rfl rfl rfl ?_ | refine EL_not rfl rfl rfl ?_
  first | refine EL_val (R_eql_t rfl rfl (by omega)) rfl rfl rfl ?_ | refine EL_val (R_eql_f rfl rfl (by omega)) rfl rfl rfl ?_ | refine EL_not rfl rfl rfl ?_
  first | refine EL_val (R_pick_t rfl rfl) rfl rfl rfl ?_ | refine EL_val (R_pick_f rfl rfl) rfl rfl rfl ?_
  refine EL_val (R_move rfl) rfl rfl rfl ?_
  first | refine EL_val (R_move rfl) rfl rfl rfl ?_ | refine EL_not rfl rfl rfl ?_
  refine EL_step rfl ?_
  refine EO_call K.bd21 rfl rfl (blocks_nil) ?_
  rintro _ _ ⟨rfl, rfl⟩
  first | refine EL_val (R_eql_t rfl rfl (by omega)) rfl rfl rfl ?_ | refine EL_val (R_eql_f rfl rfl (by omega)) rfl rfl rfl ?_ | refine EL_not rfl rfl rfl ?_
  first | refine EL_val (R_pick_t rfl rfl) rfl rfl rfl ?_ | refine EL_val (R_pick_f rfl rfl) rfl rfl rfl ?_
  refine EL_val (R_move rfl) rfl rfl rfl ?_
  first | refine EL_val (R_move rfl) rfl rfl rfl ?_ | refine EL_not rfl rfl rfl ?_
  first | refine EL_val (R_move rfl) rfl rfl rfl ?_ | refine EL_not rfl rfl rfl ?_
  refine EL_step rfl ?_
  refine EO_call K.bd13 rfl rfl (open_nil) ?_
  rintro _ _ ⟨rfl, rfl⟩
  first | refine EL_val (R_eql_t rfl rfl (by omega)) rfl rfl rfl ?_ | refine EL_val (R_eql_f rfl rfl (by omega)) rfl rfl rfl ?_ | refine EL_not rfl rfl rfl ?_
  first | refine EL_val (R_pick_t rfl rfl) rfl rfl rfl ?_ | refine EL_val (R_pick_f rfl rfl) rfl rfl rfl ?_
  refine EL_val (R_assign rfl) rfl rfl rfl ?_
  refine EL_nil ?_
  refine E_ret ?_
  refine ret1 (.inr rfl) rfl rfl ?_
  exact ⟨rfl, bl_no (Below.refl _ _) (Nat.le_refl _) hm1⟩
theorem none_row {H : Type} {enc : TypeId × Value → H} {W : World} {base : Nat} {v0 v1 v2 : Value} {d0 d1 d2 : DataW H} {p0 p1 p2 : List MemPlace} (k0 : Value.okWide Try.prog W .any base 3 v0) (h0 : DataW.Trod enc Try.prog W 0 (fun _ => true) true 3 v0 d0 p0)
    (k1 : Value.okWide Try.prog W .any base 40 v1) (h1 : DataW.Trod enc Try.prog W 0 (fun _ => true) true 40 v1 d1 p1) (k2 : Value.okWide Try.prog W .any base 24 v2) (h2 : DataW.Trod enc Try.prog W 0 (fun _ => true) true 24 v2 d2 p2) :
    Ret Try.prog 7 [v0, v1, v2] W fun r w' => r = .bool true ∧ Below W.heap.size W w' := by
  obtain ⟨n, rfl, rfl, rfl, _⟩ := open_int Try.underlying3 k0 h0
  exact none_walk n v1 v2
theorem diskNone_own : ownKnob Try.prog.godebug = none := by kernel_rfl
theorem diskNone_laidOut : laidOutB Try.prog = true := by kernel_rfl
set_option maxRecDepth 100000 in
theorem diskNone_lifted (os : Os) (started : os.Started) (H : Type) (enc : TypeId × Value → H) :
    ReturnsInHanded {} Try.checked os 7 .any (Rows.diskNoneSpec.pre6 enc Try.prog Try.f7 Rows.diskNoneRow.domain false) (Rows.diskNoneSpec.post enc Try.prog Try.f7 false true false false) := by
  refine returnsInHanded_of_change (C := Try.checked) diskNone_own started (by kernel_rfl) Try.func7
    (ChangeSpec.witness6 (enc := enc) (C := Try.checked) false ⟨#[], #[.int .i64 0, .slice none 0 0, .slice none 0 0], []⟩ 8 (by kernel_rfl) (by kernel_rfl) (by kernel_rfl) (by kernel_rfl)) ?_
  intro W base args ds gs before hval0 hW hcnd _
  have hval : ∀ (j : Nat) t v, Try.f7.params[j]? = some t → args[j]? = some v → Value.okWide Try.prog W .any base t v := hval0
  have hW' := hW
  obtain ⟨p, q, hA0, hV, rfl, hfz, hnd⟩ := hW
  have hA : DataW.TrodAll enc Try.prog W 0 (fun _ => true) true Try.f7.params.toList args.toList ds p := hA0
  rw [Try.params7] at hA hval
  obtain ⟨v0, vs0, d0, ds0, p0, q0, hargs, rfl, rfl, h0, r0⟩ := trodAll_cons hA
  obtain ⟨v1, vs1, d1, ds1, p1, q1, rfl, rfl, rfl, h1, r1⟩ := trodAll_cons r0
  obtain ⟨v2, vs2, d2, ds2, p2, q2, rfl, rfl, rfl, h2, r2⟩ := trodAll_cons r1
  obtain ⟨rfl, rfl, rfl⟩ := trodAll_nil r2
  obtain rfl : args = #[v0, v1, v2] := by cases args; simp_all
  obtain ⟨rfl, rfl⟩ := trodVars_none hV
  have lt0 : ∀ x ∈ p0, x.block < W.heap.size := by obtain ⟨m, hm⟩ := h0; exact DataW.trod_lt m _ _ _ hm
  have lt1 : ∀ x ∈ p1, x.block < W.heap.size := by obtain ⟨m, hm⟩ := h1; exact DataW.trod_lt m _ _ _ hm
  have lt2 : ∀ x ∈ p2, x.block < W.heap.size := by obtain ⟨m, hm⟩ := h2; exact DataW.trod_lt m _ _ _ hm
  clear hA0 hval0
  refine Calls.mono (none_row (hval 0 3 v0 rfl rfl) h0 (hval 1 40 v1 rfl rfl) h1 (hval 2 24 v2 rfl rfl) h2) ?_
  rintro x W' ⟨v, rfl, rfl, bel⟩
  exact ⟨_, rfl, _, _, _, [], _, [], hW', trodAll_mk1 (shut_bool Try.underlying4 _), (trodAll_cons_mk (Below.trod diskNone_laidOut (by kernel_rfl) (of_decide_eq_true (by kernel_rfl)) h0 bel lt0) (trodAll_cons_mk (Below.trod diskNone_laidOut (by kernel_rfl) (of_decide_eq_true (by kernel_rfl)) h1 bel lt1) (trodAll_cons_mk (Below.trod diskNone_laidOut (by kernel_rfl) (of_decide_eq_true (by kernel_rfl)) h2 bel lt2) trodAll_mk0))), rfl, bel.frame _, fun h => by cases h⟩
/-- THE STATEMENT -/
theorem diskNone_holds : Rows.DiskNoneSaid :=
  OpenClaim.holds_of_wide 7 Try.f7 rfl rfl rfl rfl rfl rfl rfl ⟨rfl, rfl, rfl, rfl, rfl⟩ rfl rfl rfl rfl rfl (by kernel_rfl) Try.func7 (by kernel_rfl)
    (of_decide_eq_true (by kernel_rfl)) (by unfold Func.isWrapper; first | (rw [if_pos (by decide +kernel)]; kernel_rfl) | (rw [if_neg (by decide +kernel)]; exact ⟨rfl, rfl⟩))
    (fun os started H enc _ => diskNone_lifted os started H enc)
#print axioms diskNone_holds
end Go.Proofs.Ytphnhhcefoghpaa
