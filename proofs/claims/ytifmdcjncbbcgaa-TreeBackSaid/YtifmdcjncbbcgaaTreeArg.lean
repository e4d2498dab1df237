/- Arguments of the tree's laws opened. -/
import Derived.Test.YtifmdcjncbbcgaaTreeP
import Derived.Test.YtifmdcjncbbcgaaRows
import Derived.ProofKit
import Derived.ChangeOld
import Derived.OpenShut
import Derived.SizedLaws
set_option linter.unusedVariables false
set_option linter.unusedSimpArgs false
set_option maxRecDepth 100000
namespace Go.Proofs.Ytifmdcjncbbcgaa
open Go.EW Go.RowKit Go.ChangeShapes Go.WideShapes Go.ChangeAt
section
variable {H : Type} {enc : TypeId × Value → H} {W : World} {base : Nat}
theorem bulk_one (d : DataW H) : 1 ≤ Rows.uptoBulk d := by
  cases d with
  | lit l => cases l <;> simp [Rows.uptoBulk]
  | _ => simp [Rows.uptoBulk]
theorem bulk_length : ∀ (l : List (DataW H)), l.length ≤ Rows.uptoBulkAll l
  | [] => by simp
  | x :: r => by
    have h1 := bulk_one x
    have h2 := bulk_length r
    simp only [Rows.uptoBulkAll, List.length_cons]
    omega
theorem bulk_slice (l s : List (DataW H)) : l.length ≤ Rows.uptoBulk (.slice l s) := by
  have := bulk_length l
  simp only [Rows.uptoBulk]
  omega
theorem slice_plain {t e : TypeId} {A : Option Addr} {n c : Nat} (ht : Program.underlying Try.prog t = some (.slice e)) (k : Value.okWide Try.prog W .any base t (.slice A n c)) : (∀ a, A = some a → a.spot = none ∧ a.block < W.heap.size) ∧ n ≤ c := by
  simp only [Value.okWide, ht, Cell.okWide, Cell.ok] at k
  cases A with
  | none =>
    refine ⟨(fun a h => by cases h), ?_⟩
    cases n <;> cases c <;> simp_all
  | some a =>
    simp only at k
    obtain ⟨h1, _, _, h3, row, cells, h4, _⟩ := k
    have hlt : a.block < W.heap.size := by
     unfold World.shape? at h4
     rcases Nat.lt_or_ge a.block W.heap.size with h | h
     · exact h
     · rw [Array.getElem?_eq_none h] at h4; cases h4
    exact ⟨fun b hb => by cases hb; exact ⟨h3, hlt⟩, h1⟩
theorem arg_open {v : Value} {d : DataW H} {p : List MemPlace} (k : Value.okWide Try.prog W .any base 22 v) (h : DataW.Trod enc Try.prog W 0 (fun _ => true) true 22 v d p) :
    ∃ A ks c, v = .slice A (List.length ks) c ∧ Arg W A ks c ∧ ks.length ≤ Rows.uptoBulk d ∧ (ks = [] ∨ ∃ el sp, d = .slice el sp ∧ el.length = ks.length) := by
  obtain ⟨A0, n0, c0, rfl⟩ := okWide_slice Try.underlying22 k
  obtain ⟨f, h⟩ := h
  rcases open_ints Try.underlying22 Try.underlying3 (by kernel_rfl) h with ⟨hcs, _⟩ | ⟨a, len, cap, zs, hcs, _, hl, hm, hz, hx, hcell, hwz⟩
  · injection hcs with hv
    injection hv with e1 e2 e3
    subst e1; subst e2; subst e3
    exact ⟨none, [], 0, rfl, ⟨IS.nil, by simp, by simp, (fun a h => by cases h), (fun g i h => by cases h)⟩, by simp, .inl rfl⟩
  · injection hcs with hv
    injection hv with e1 e2 e3
    subst e1; subst e2; subst e3
    obtain ⟨hsp, _⟩ := slice_plain Try.underlying22 k
    obtain ⟨hs1, hs2⟩ := hsp a rfl
    have hle : n0 ≤ zs.length := by rw [hz]; split <;> omega
    have ha : a = ⟨a.block, a.off, none⟩ := by cases a; simp only at hs1; rw [hs1]
    have hlen : (zs.take n0).length = n0 := by simp; omega
    have hd : d = .slice (lits .i64 (zs.take n0)) (lits .i64 (zs.drop n0)) := by have := congrArg Prod.fst hx; exact this
    refine ⟨some a, zs.take n0, c0, by rw [hlen], ⟨⟨by simp [ival], fun h0 => ?_⟩, by omega, by simp [maxLen] at hm ⊢; omega, (fun b hb => by cases hb; exact hs1), fun g i hA => ?_⟩, ?_, .inr ⟨_, _, hd, by simp [lits]⟩⟩
    · refine ⟨a.block, a.off, by rw [← ha], fun j u hj => ?_⟩
      have hb := (Array.getElem?_eq_some_iff.1 hj).1
      simp [ival] at hb
      have hcj := hcell j (by omega)
      rw [ha, add_none] at hcj
      rw [hcj, ← hj]
      simp only [ival, List.getElem?_toArray, List.getElem?_map, List.getElem?_take, if_pos (show j < n0 by omega), List.getElem?_eq_getElem (show j < zs.length by omega), Option.map_some, Option.some.injEq, Value.int.injEq, true_and]
      rw [List.getD_eq_getElem?_getD, List.getElem?_eq_getElem (by omega)]
      rfl
    · injection hA with hA
      rw [hA] at hs2
      exact hs2
    · rw [hd]
      have := bulk_slice (lits (H := H) .i64 (zs.take n0)) (lits .i64 (zs.drop n0))
      simpa [lits] using this
end
end Go.Proofs.Ytifmdcjncbbcgaa
