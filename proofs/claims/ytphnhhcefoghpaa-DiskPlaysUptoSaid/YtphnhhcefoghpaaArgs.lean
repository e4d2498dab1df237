/- Arguments opened: bytes, ints, slices of bytes, writes. -/
import Derived.Test.YtphnhhcefoghpaaAwake
import Derived.ProofKit
import Derived.Deep.Slices
set_option linter.unusedVariables false
set_option linter.unusedSimpArgs false
set_option maxRecDepth 100000
namespace Go.Proofs.Ytphnhhcefoghpaa
open Go.EW Go.RowKit Go.ChangeShapes Go.WideShapes

/-- bytes that a slice value holds, in blocks that are there -/
def BytesAt (B : Nat) (w : World) (A : Option Addr) (l : List UInt8) : Prop := l.length ≤ 9223372036854775807 ∧ (0 < l.length → ∃ g i, A = some ⟨g, i, none⟩ ∧ g < B ∧ Cells w g i (bv l))
theorem BytesAt.below {B : Nat} {w w' : World} {A : Option Addr} {l : List UInt8} (h : BytesAt B w A l) (hb : Below B w w') : BytesAt B w' A l :=
  ⟨h.1, fun h0 => by obtain ⟨g, i, hA, hg, hc⟩ := h.2 h0; exact ⟨g, i, hA, hg, fun j v hj => (hb.cell (p := ⟨g, i + j, none⟩) hg).trans (hc j v hj)⟩⟩
/-- slices of bytes -/
def BytessAt (B : Nat) (w : World) (A : Option Addr) (L : List (List UInt8)) : Prop := L.length ≤ 9223372036854775807 ∧ (0 < L.length → ∃ g i, A = some ⟨g, i, none⟩ ∧ g < B ∧
  ∀ (k : Nat) (hk : k < L.length), ∃ Ak ck, w.cell? ⟨g, i + k, none⟩ = some (.slice Ak L[k].length ck) ∧ BytesAt B w Ak L[k])
theorem BytessAt.below {B : Nat} {w w' : World} {A : Option Addr} {L : List (List UInt8)} (h : BytessAt B w A L) (hb : Below B w w') : BytessAt B w' A L :=
  ⟨h.1, fun h0 => by
    obtain ⟨g, i, hA, hg, hc⟩ := h.2 h0
    refine ⟨g, i, hA, hg, fun k hk => ?_⟩
    obtain ⟨Ak, ck, h1, h2⟩ := hc k hk
    exact ⟨Ak, ck, (hb.cell (p := ⟨g, i + k, none⟩) hg).trans h1, h2.below hb⟩⟩
def IntsAt (B : Nat) (w : World) (A : Option Addr) (ks : List Int) : Prop := ks.length ≤ 9223372036854775807 ∧ (0 < ks.length → ∃ g i, A = some ⟨g, i, none⟩ ∧ g < B ∧ ∀ (k : Nat) (x : Int), ks[k]? = some x → w.cell? ⟨g, i + k, none⟩ = some (.int .i64 x))
theorem IntsAt.below {B : Nat} {w w' : World} {A : Option Addr} {ks : List Int} (h : IntsAt B w A ks) (hb : Below B w w') : IntsAt B w' A ks :=
  ⟨h.1, fun h0 => by obtain ⟨g, i, hA, hg, hc⟩ := h.2 h0; exact ⟨g, i, hA, hg, fun j v hj => (hb.cell (p := ⟨g, i + j, none⟩) hg).trans (hc j v hj)⟩⟩
theorem IntsAt.off {B B' : Nat} {w : World} {A : Option Addr} {ks : List Int} (h : IntsAt B w A ks) (hB : B ≤ B') : IntsOff B' w A ks.length ks :=
  ⟨⟨rfl, h.1, fun h0 => by obtain ⟨g, i, hA, _, hc⟩ := h.2 h0; exact ⟨g, i, hA, hc⟩⟩, fun g i h0 hA hf => by
    obtain ⟨g', i', hA', hg, _⟩ := h.2 h0
    rw [hA] at hA'
    injection hA' with hA'
    injection hA' with h1 h2
    have := hf.1
    omega⟩
def WritesAt (B : Nat) (w : World) (A : Option Addr) (L : List (Int × List UInt8)) : Prop := L.length ≤ 9223372036854775807 ∧ (0 < L.length → ∃ g i, A = some ⟨g, i, none⟩ ∧ g < B ∧
  ∀ (k : Nat) (hk : k < L.length), ∃ Ad cd, w.cell? ⟨g, i + k * 2, none⟩ = some (.int .i64 L[k].1) ∧ w.cell? ⟨g, i + k * 2 + 1, none⟩ = some (.slice Ad L[k].2.length cd) ∧ BytesAt B w Ad L[k].2)
theorem WritesAt.below {B : Nat} {w w' : World} {A : Option Addr} {L : List (Int × List UInt8)} (h : WritesAt B w A L) (hb : Below B w w') : WritesAt B w' A L :=
  ⟨h.1, fun h0 => by
    obtain ⟨g, i, hA, hg, hc⟩ := h.2 h0
    refine ⟨g, i, hA, hg, fun k hk => ?_⟩
    obtain ⟨Ad, cd, h1, h2, h3⟩ := hc k hk
    exact ⟨Ad, cd, (hb.cell (p := ⟨g, i + k * 2, none⟩) hg).trans h1, (hb.cell (p := ⟨g, i + k * 2 + 1, none⟩) hg).trans h2, h3.below hb⟩⟩
theorem BytesAt.off {B B' : Nat} {w : World} {A : Option Addr} {l : List UInt8} (h : BytesAt B w A l) (hB : B ≤ B') : BytesOff B' w A l := fun h0 => by
  obtain ⟨g, i, hA, hg, hc⟩ := h.2 h0
  exact ⟨g, i, hA, hc, fun hf => by have := hf.1; omega⟩
theorem WritesAt.off {B B' : Nat} {w : World} {A : Option Addr} {L : List (Int × List UInt8)} (h : WritesAt B w A L) (hB : B ≤ B') : Writes B' w A L :=
  ⟨h.1, fun h0 => by
    obtain ⟨g, i, hA, hg, hc⟩ := h.2 h0
    refine ⟨g, i, hA, fun hf => by have := hf.1; omega, fun k hk => ?_⟩
    obtain ⟨Ad, cd, h1, h2, h3⟩ := hc k hk
    exact ⟨Ad, cd, h1, h2, h3.off hB⟩⟩

section
variable {H : Type} {enc : TypeId × Value → H} {w : World} {base : Nat} {spare : Nat → Bool} {held : Bool}
theorem spot_none {w : World} {a : Addr} {n : Nat} {v : Value} (h : w.cell? (a.add n) = some v) : (a.add n).spot = none := by
  unfold World.cell? at h
  split at h
  · cases hs : (a.add n).spot with
    | none => rfl
    | some x => simp [hs] at h
  · cases h
theorem addr_plain {w : World} {a : Addr} {v : Value} (h : w.cell? (a.add 0) = some v) : a = ⟨a.block, a.off, none⟩ := by
  have := spot_none h
  cases a
  simp [Addr.add] at this
  simp [this]
theorem byte_of_wf {n : Int} (h : (Lit.int .u8 n).wf = true) : 0 ≤ n ∧ n ≤ 255 := by
  simp [Lit.wf, IntKind.min, IntKind.max, IntKind.bits, IntKind.signed] at h
  omega
theorem bytes_open {fuel : Nat} {v : Value} {x : DataW H × List MemPlace} (h : DataW.trod enc Try.prog w base spare held fuel 23 [v] = some x) :
    ∃ A l c, v = .slice A (List.length l) c ∧ BytesAt w.heap.size w A l := by
  rcases open_ints Try.underlying23 Try.underlying5 (by kernel_rfl) h with ⟨hcs, _⟩ | ⟨a, len, cap, zs, hcs, _, hl, hm, hz, _, hcell, hwz⟩
  · injection hcs with hv
    exact ⟨none, [], 0, hv, by simp, fun h0 => by simp at h0⟩
  · injection hcs with hv
    have hle : len ≤ zs.length := by rw [hz]; split <;> omega
    refine ⟨some a, (zs.take len).map fun z => UInt8.ofNat z.toNat, cap, by rw [hv]; simp; omega, by simp [maxLen] at hm ⊢; omega, fun h0 => ?_⟩
    have hlen : 0 < len := by simp at h0; omega
    have hc0 := hcell 0 (by omega)
    have ha := addr_plain hc0
    refine ⟨a.block, a.off, by rw [← ha], ?_, fun j u hj => ?_⟩
    · have := World.block_lt_of_cell? w _ hc0
      simpa [Addr.add] using this
    · have hb : j < (bv ((zs.take len).map fun z => UInt8.ofNat z.toNat)).size := (Array.getElem?_eq_some_iff.1 hj).1
      rw [bv_size] at hb
      simp at hb
      have hcj := hcell j (by omega)
      rw [ha, add_none] at hcj
      rw [hcj, ← hj]
      have hwf := byte_of_wf (hwz (zs.getD j 0) (by rw [List.getD_eq_getElem?_getD, List.getElem?_eq_getElem (by omega)]; exact List.getElem_mem _))
      have hzj : zs[j]? = some (zs.getD j 0) := by rw [List.getD_eq_getElem?_getD, List.getElem?_eq_getElem (by omega)]; rfl
      generalize zs.getD j 0 = z at hwf hzj
      have hz' : (UInt8.ofNat z.toNat).toNat = z.toNat := by
        show (BitVec.ofNat 8 z.toNat).toNat = _
        rw [BitVec.toNat_ofNat]
        omega
      have hjl : j < len := by omega
      simp only [bv, List.getElem?_toArray, List.getElem?_map, List.getElem?_take, if_pos hjl, hzj, Option.map_some, Option.some.injEq, Value.int.injEq, true_and, hz']
      omega
theorem ints_open {fuel : Nat} {v : Value} {x : DataW H × List MemPlace} (h : DataW.trod enc Try.prog w base spare held fuel 24 [v] = some x) :
    ∃ A ks c, v = .slice A (List.length ks) c ∧ IntsAt w.heap.size w A ks := by
  rcases open_ints Try.underlying24 Try.underlying3 (by kernel_rfl) h with ⟨hcs, _⟩ | ⟨a, len, cap, zs, hcs, _, hl, hm, hz, _, hcell, hwz⟩
  · injection hcs with hv
    exact ⟨none, [], 0, hv, by simp, fun h0 => by simp at h0⟩
  · injection hcs with hv
    have hle : len ≤ zs.length := by rw [hz]; split <;> omega
    refine ⟨some a, zs.take len, cap, by rw [hv]; simp; omega, by simp [maxLen] at hm ⊢; omega, fun h0 => ?_⟩
    have hlen : 0 < len := by simp at h0; omega
    have hc0 := hcell 0 (by omega)
    have ha := addr_plain hc0
    refine ⟨a.block, a.off, by rw [← ha], ?_, fun j u hj => ?_⟩
    · have := World.block_lt_of_cell? w _ hc0
      simpa [Addr.add] using this
    · have hb := (List.getElem?_eq_some_iff.1 hj).1
      simp at hb
      have hcj := hcell j (by omega)
      rw [ha, add_none] at hcj
      rw [hcj]
      rw [List.getElem?_take, if_pos (show j < len by omega)] at hj
      rw [List.getD_eq_getElem?_getD, hj]
      rfl
theorem bytess_open {fuel : Nat} {v : Value} {x : DataW H × List MemPlace} (h : DataW.trod enc Try.prog w base spare held fuel 22 [v] = some x) :
    ∃ A L c, v = .slice A (List.length L) c ∧ BytessAt w.heap.size w A L := by
  rcases Go.Deep.open_slice Try.underlying22 h with ⟨hcs, _⟩ | ⟨a, len, cap, m, n, D, Pl, hcs, hb, hl, hm, hmm, hxx, hi⟩
  · injection hcs with hv
    exact ⟨none, [], 0, hv, by simp, fun h0 => by simp at h0⟩
  · injection hcs with hv
    clear hxx
    have hlm : len ≤ m := by rw [hmm]; split <;> omega
    have hC : Program.cellsOf Try.prog 23 = 1 := by kernel_rfl
    have hrow : ∀ i, i < len → ∃ A l c, w.cell? (a.add i) = some (.slice A (List.length l) c) ∧ BytesAt w.heap.size w A l := by
      intro i hil
      obtain ⟨cs', hc, ht⟩ := hi i (by omega)
      rw [hC] at hc
      obtain ⟨_, hcl, hat⟩ := World.cells?_some hc
      have h1 := hat 0 (by omega)
      match cs', hcl with
      | [u], _ =>
        obtain ⟨A, l, c, rfl, hl'⟩ := bytes_open ht
        refine ⟨A, l, c, ?_, hl'⟩
        rw [Nat.mul_one] at h1
        have h00 : (a.add i).add 0 = a.add i := by simp [Addr.add]
        rw [h00] at h1
        exact h1
    have hex : ∃ L : List (List UInt8), L.length = len ∧ ∀ (k : Nat) (hk : k < L.length), ∃ A c, w.cell? (a.add k) = some (.slice A L[k].length c) ∧ BytesAt w.heap.size w A L[k] := by
      clear hl hm hmm hlm hv hi
      induction len with
      | zero => exact ⟨[], rfl, fun k hk => by simp at hk⟩
      | succ q ih =>
        obtain ⟨L, hL, hk⟩ := ih fun i hi => hrow i (by omega)
        obtain ⟨A, l, c, h1, h2⟩ := hrow q (by omega)
        refine ⟨L ++ [l], by simp [hL], fun k hkl => ?_⟩
        by_cases hq : k < L.length
        · rw [List.getElem_append_left hq]; exact hk k hq
        · have hkq : k = q := by simp at hkl; omega
          subst hkq
          refine ⟨A, c, ?_⟩
          rw [List.getElem_append_right (by omega)]
          simp only [hL, Nat.sub_self, List.getElem_cons_zero]
          exact ⟨h1, h2⟩
    obtain ⟨L, hL, hk⟩ := hex
    refine ⟨some a, L, cap, by rw [hv, hL], by simp [maxLen] at hm; omega, fun h0 => ?_⟩
    obtain ⟨A0, c0, hc0, _⟩ := hk 0 h0
    have ha := addr_plain hc0
    refine ⟨a.block, a.off, by rw [← ha], ?_, fun k hkl => ?_⟩
    · have := World.block_lt_of_cell? w _ hc0
      simpa [Addr.add] using this
    · obtain ⟨A, c, h1, h2⟩ := hk k hkl
      rw [ha, add_none] at h1
      exact ⟨A, c, h1, h2⟩
end
end Go.Proofs.Ytphnhhcefoghpaa
