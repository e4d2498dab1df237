/- drydocklaw15.LogWhole returns true for every input; the arguments read as they did. -/
import Derived.Test.YtoikdgoadjedaaaWhole
import Derived.Test.YtoikdgoadjedaaaRows
import Derived.ChangeOld
import Derived.OpenShut
set_option linter.unusedVariables false
set_option linter.unusedSimpArgs false
set_option maxRecDepth 100000
namespace Go.Proofs.Ytoikdgoadjedaaa
open Go.EW Go.RowKit Go.ChangeShapes Go.WideShapes Go.ChangeAt
theorem whole_row {H : Type} {enc : TypeId × Value → H} {W : World} {base : Nat} {v0 v1 v2 v3 v4 : Value} {d0 d1 d2 d3 d4 : DataW H} {p0 p1 p2 p3 p4 : List MemPlace} (k0 : Value.okWide Try.prog W .any base 5 v0) (h0 : DataW.Trod enc Try.prog W 0 (fun _ => true) true 5 v0 d0 p0)
    (k1 : Value.okWide Try.prog W .any base 22 v1) (h1 : DataW.Trod enc Try.prog W 0 (fun _ => true) true 22 v1 d1 p1) (k2 : Value.okWide Try.prog W .any base 23 v2) (h2 : DataW.Trod enc Try.prog W 0 (fun _ => true) true 23 v2 d2 p2)
    (k3 : Value.okWide Try.prog W .any base 5 v3) (h3 : DataW.Trod enc Try.prog W 0 (fun _ => true) true 5 v3 d3 p3) (k4 : Value.okWide Try.prog W .any base 5 v4) (h4 : DataW.Trod enc Try.prog W 0 (fun _ => true) true 5 v4 d4 p4) :
    Ret Try.prog 3 [v0, v1, v2, v3, v4] W fun r w' => r = .bool true ∧ Below W.heap.size W w' := by
  obtain ⟨z0, rfl⟩ := okWide_int Try.underlying5 k0
  obtain ⟨z1, rfl⟩ := okWide_int Try.underlying22 k1
  obtain ⟨A2, z2, c2, rfl⟩ := okWide_slice Try.underlying23 k2
  obtain ⟨z3, rfl⟩ := okWide_int Try.underlying5 k3
  obtain ⟨z4, rfl⟩ := okWide_int Try.underlying5 k4
  obtain ⟨f0, h0⟩ := h0
  obtain ⟨f1, h1⟩ := h1
  obtain ⟨f2, h2⟩ := h2
  obtain ⟨f3, h3⟩ := h3
  obtain ⟨f4, h4⟩ := h4
  obtain ⟨n0, e0, _, w0⟩ := DataW.trod_int Try.underlying5 h0
  obtain ⟨n1, e1, _, w1⟩ := DataW.trod_int Try.underlying22 h1
  obtain ⟨n3, e3, _, w3⟩ := DataW.trod_int Try.underlying5 h3
  obtain ⟨n4, e4, _, w4⟩ := DataW.trod_int Try.underlying5 h4
  obtain ⟨A, l, c, e2, hb, _, hl⟩ := bytes_open h2
  rw [e2]
  obtain rfl : n0 = z0 := by cases e0; rfl
  obtain rfl : n1 = z1 := by cases e1; rfl
  obtain rfl : n3 = z3 := by cases e3; rfl
  obtain rfl : n4 = z4 := by cases e4; rfl
  have w0 := byte_of_wf w0
  have w3 := byte_of_wf w3
  have w4 := byte_of_wf w4
  have w1 : 0 ≤ n1 ∧ n1 ≤ 65535 := by
    simp [Lit.wf, IntKind.min, IntKind.max, IntKind.bits, IntKind.signed] at w1
    omega
  have hf : (UInt8.ofNat n4.toNat).toNat = n4.toNat := by
    show (BitVec.ofNat 8 n4.toNat).toNat = _
    rw [BitVec.toNat_ofNat]
    omega
  have h := whole_walk (w := W) (c2 := c) (at_ := n0.toNat) (sq := n1.toNat) (ct := n3.toNat) (fill := UInt8.ofNat n4.toNat) (by omega) (by omega) (by omega) hb hl
  rw [hf, show ((n0.toNat : Nat) : Int) = n0 by omega, show ((n1.toNat : Nat) : Int) = n1 by omega, show ((n3.toNat : Nat) : Int) = n3 by omega, show ((n4.toNat : Nat) : Int) = n4 by omega] at h
  exact h.mono fun v w' ⟨h1, h2⟩ => ⟨h1, Mods.below h2 (Nat.le_refl _) fun _ _ h => h⟩
theorem logWhole_own : ownKnob Try.prog.godebug = none := by kernel_rfl
theorem logWhole_laidOut : laidOutB Try.prog = true := by kernel_rfl
set_option maxRecDepth 100000 in
theorem logWhole_lifted (os : Os) (started : os.Started) (H : Type) (enc : TypeId × Value → H) :
    ReturnsInHanded {} Try.checked os 3 .any (Rows.logWholeSpec.pre6 enc Try.prog Try.f3 Rows.logWholeRow.domain false) (Rows.logWholeSpec.post enc Try.prog Try.f3 false true false false) := by
  refine returnsInHanded_of_change (C := Try.checked) logWhole_own started (by kernel_rfl) Try.func3
    (ChangeSpec.witness6 (enc := enc) (C := Try.checked) false ⟨#[], #[.int .u8 0, .int .u16 0, .slice none 0 0, .int .u8 0, .int .u8 0], []⟩ 8 (by kernel_rfl) (by kernel_rfl) (by kernel_rfl) (by kernel_rfl)) ?_
  intro W base args ds gs before hval0 hW hcnd _
  have hval : ∀ (j : Nat) t v, Try.f3.params[j]? = some t → args[j]? = some v → Value.okWide Try.prog W .any base t v := hval0
  have hW' := hW
  obtain ⟨p, q, hA0, hV, rfl, hfz, hnd⟩ := hW
  have hA : DataW.TrodAll enc Try.prog W 0 (fun _ => true) true Try.f3.params.toList args.toList ds p := hA0
  rw [Try.params3] at hA hval
  obtain ⟨v0, vs0, d0, ds0, p0, q0, hargs, rfl, rfl, h0, r0⟩ := trodAll_cons hA
  obtain ⟨v1, vs1, d1, ds1, p1, q1, rfl, rfl, rfl, h1, r1⟩ := trodAll_cons r0
  obtain ⟨v2, vs2, d2, ds2, p2, q2, rfl, rfl, rfl, h2, r2⟩ := trodAll_cons r1
  obtain ⟨v3, vs3, d3, ds3, p3, q3, rfl, rfl, rfl, h3, r3⟩ := trodAll_cons r2
  obtain ⟨v4, vs4, d4, ds4, p4, q4, rfl, rfl, rfl, h4, r4⟩ := trodAll_cons r3
  obtain ⟨rfl, rfl, rfl⟩ := trodAll_nil r4
  obtain rfl : args = #[v0, v1, v2, v3, v4] := by cases args; simp_all
  obtain ⟨rfl, rfl⟩ := trodVars_none hV
  have lt0 : ∀ x ∈ p0, x.block < W.heap.size := by obtain ⟨m, hm⟩ := h0; exact DataW.trod_lt m _ _ _ hm
  have lt1 : ∀ x ∈ p1, x.block < W.heap.size := by obtain ⟨m, hm⟩ := h1; exact DataW.trod_lt m _ _ _ hm
  have lt2 : ∀ x ∈ p2, x.block < W.heap.size := by obtain ⟨m, hm⟩ := h2; exact DataW.trod_lt m _ _ _ hm
  have lt3 : ∀ x ∈ p3, x.block < W.heap.size := by obtain ⟨m, hm⟩ := h3; exact DataW.trod_lt m _ _ _ hm
  have lt4 : ∀ x ∈ p4, x.block < W.heap.size := by obtain ⟨m, hm⟩ := h4; exact DataW.trod_lt m _ _ _ hm
  clear hA0 hval0
  refine Calls.mono (whole_row (hval 0 5 v0 rfl rfl) h0 (hval 1 22 v1 rfl rfl) h1 (hval 2 23 v2 rfl rfl) h2 (hval 3 5 v3 rfl rfl) h3 (hval 4 5 v4 rfl rfl) h4) ?_
  rintro x W' ⟨v, rfl, rfl, bel⟩
  exact ⟨_, rfl, _, _, _, [], _, [], hW', trodAll_mk1 (shut_bool Try.underlying4 _), (trodAll_cons_mk (Below.trod logWhole_laidOut (by kernel_rfl) (of_decide_eq_true (by kernel_rfl)) h0 bel lt0) (trodAll_cons_mk (Below.trod logWhole_laidOut (by kernel_rfl) (of_decide_eq_true (by kernel_rfl)) h1 bel lt1) (trodAll_cons_mk (Below.trod logWhole_laidOut (by kernel_rfl) (of_decide_eq_true (by kernel_rfl)) h2 bel lt2) (trodAll_cons_mk (Below.trod logWhole_laidOut (by kernel_rfl) (of_decide_eq_true (by kernel_rfl)) h3 bel lt3) (trodAll_cons_mk (Below.trod logWhole_laidOut (by kernel_rfl) (of_decide_eq_true (by kernel_rfl)) h4 bel lt4) trodAll_mk0))))), rfl, bel.frame _, fun h => by cases h⟩
/-- THE STATEMENT -/
theorem logWhole_holds : Rows.LogWholeSaid :=
  OpenClaim.holds_of_wide 3 Try.f3 rfl rfl rfl rfl rfl rfl rfl ⟨rfl, rfl, rfl, rfl, rfl⟩ rfl rfl rfl rfl rfl (by kernel_rfl) Try.func3 (by kernel_rfl)
    (of_decide_eq_true (by kernel_rfl)) (by unfold Func.isWrapper; first | (rw [if_pos (by decide +kernel)]; kernel_rfl) | (rw [if_neg (by decide +kernel)]; exact ⟨rfl, rfl⟩))
    (fun os started H enc _ => logWhole_lifted os started H enc)
#print axioms logWhole_holds
end Go.Proofs.Ytoikdgoadjedaaa
