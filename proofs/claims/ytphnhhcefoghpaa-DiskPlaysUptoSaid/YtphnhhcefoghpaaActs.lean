/- Arguments opened: slices of what takes several cells; how much they hold. -/
import Derived.Test.YtphnhhcefoghpaaArgs
import Derived.Test.YtphnhhcefoghpaaRows
set_option linter.unusedVariables false
set_option linter.unusedSimpArgs false
set_option maxRecDepth 100000
namespace Go.Proofs.Ytphnhhcefoghpaa
open Go.EW Go.RowKit Go.ChangeShapes Go.WideShapes
section
variable {H : Type} {enc : TypeId × Value → H} {w : World} {base : Nat} {spare : Nat → Bool} {held : Bool}
theorem bulk_one (d : DataW H) : 1 ≤ Rows.uptoBulk d := by
  cases d with
  | lit l => cases l <;> simp [Rows.uptoBulk]
  | _ => simp [Rows.uptoBulk]
theorem bulk_mem {d : DataW H} : ∀ {l : List (DataW H)}, d ∈ l → Rows.uptoBulk d ≤ Rows.uptoBulkAll l
  | [], h => by cases h
  | x :: r, h => by
    simp only [Rows.uptoBulkAll]
    rcases List.mem_cons.1 h with e | e
    · subst e; omega
    · have := bulk_mem e; omega
theorem bulk_length : ∀ (l : List (DataW H)), l.length ≤ Rows.uptoBulkAll l
  | [] => by simp
  | x :: r => by
    have h1 := bulk_one x
    have h2 := bulk_length r
    simp only [Rows.uptoBulkAll, List.length_cons]
    omega
theorem bulk_slice (l s : List (DataW H)) : l.length ≤ Rows.uptoBulk (.slice l s) := by
  have := bulk_length l
  simp only [Rows.uptoBulk]
  omega
theorem bulk_elem {d : DataW H} {l s : List (DataW H)} (h : d ∈ l) : Rows.uptoBulk d ≤ Rows.uptoBulk (.slice l s) := by
  have := bulk_mem h
  simp only [Rows.uptoBulk]
  omega
/-- a slice opened: each element by R -/
theorem rows_open {α : Type} {t e : TypeId} {size : Nat} (ht : Program.underlying Try.prog t = some (.slice e)) (hC : Program.cellsOf Try.prog e = size) (hs : 0 < size) (R : List Value → α → DataW H → Prop)
    (hR : ∀ fuel cs y, DataW.trod enc Try.prog w base spare held fuel e cs = some y → cs.length = size → ∃ a, R cs a y.1) {fuel : Nat} {v : Value} {x : DataW H × List MemPlace} (h : DataW.trod enc Try.prog w base spare held fuel t [v] = some x) :
    ∃ A l c, v = .slice A (List.length l) c ∧ l.length ≤ 9223372036854775807 ∧ l.length ≤ Rows.uptoBulk x.1 ∧ (0 < l.length → ∃ g i, A = some ⟨g, i, none⟩ ∧ g < w.heap.size ∧
      ∀ (k : Nat) (hk : k < l.length), ∃ cs y, R cs l[k] y ∧ Rows.uptoBulk y ≤ Rows.uptoBulk x.1 ∧ ∀ (j : Nat) (u : Value), cs[j]? = some u → w.cell? ⟨g, i + k * size + j, none⟩ = some u) := by
  rcases Go.Deep.open_slice ht h with ⟨hcs, _⟩ | ⟨a, len, cap, m, n, D, Pl, hcs, hb, hl, hm, hmm, hxx, hi⟩
  · injection hcs with hv
    exact ⟨none, [], 0, hv, by simp, by simp, fun h0 => by simp at h0⟩
  · injection hcs with hv
    have hlm : len ≤ m := by rw [hmm]; split <;> omega
    have hrow : ∀ i, i < len → ∃ (al : α) (cs : List Value), R cs al (D i) ∧ cs.length = size ∧ ∀ (j : Nat) (u : Value), cs[j]? = some u → w.cell? ((a.add (i * size)).add j) = some u := by
      intro i hil
      obtain ⟨cs', hc, ht⟩ := hi i (by omega)
      rw [hC] at hc
      obtain ⟨_, hcl, hat⟩ := World.cells?_some hc
      obtain ⟨al, hal⟩ := hR _ _ _ ht hcl
      refine ⟨al, cs', hal, hcl, fun j u hj => ?_⟩
      have hjl := (List.getElem?_eq_some_iff.1 hj).1
      rw [hat j (by omega), hj]
    have hex : ∃ L : List α, L.length = len ∧ ∀ (k : Nat) (hk : k < L.length), ∃ cs, R cs L[k] (D k) ∧ cs.length = size ∧ ∀ (j : Nat) (u : Value), cs[j]? = some u → w.cell? ((a.add (k * size)).add j) = some u := by
      clear hl hm hmm hlm hv hi hxx
      induction len with
      | zero => exact ⟨[], rfl, fun k hk => by simp at hk⟩
      | succ q ih =>
        obtain ⟨L, hL, hk⟩ := ih fun i hi => hrow i (by omega)
        obtain ⟨al, cs, h1, h2⟩ := hrow q (by omega)
        refine ⟨L ++ [al], by simp [hL], fun k hkl => ?_⟩
        by_cases hq : k < L.length
        · rw [List.getElem_append_left hq]; exact hk k hq
        · have hkq : k = q := by simp at hkl; omega
          subst hkq
          refine ⟨cs, ?_⟩
          rw [List.getElem_append_right (by omega)]
          simp only [hL, Nat.sub_self, List.getElem_cons_zero]
          exact ⟨h1, h2⟩
    obtain ⟨L, hL, hk⟩ := hex
    have hx1 : x.1 = .slice ((List.range len).map D) ((List.range (m - len)).map fun j => D (len + j)) := by rw [hxx]
    refine ⟨some a, L, cap, by rw [hv, hL], by simp [maxLen] at hm; omega, ?_, fun h0 => ?_⟩
    · rw [hx1]
      have := bulk_slice ((List.range len).map D) ((List.range (m - len)).map fun j => D (len + j))
      simpa [hL] using this
    · obtain ⟨cs0, _, h0l, hc0⟩ := hk 0 h0
      have hc00 := hc0 0 (cs0[0]'(by omega)) (List.getElem?_eq_getElem (by omega))
      rw [Nat.zero_mul] at hc00
      have ha0 : (a.add 0).add 0 = a.add 0 := by simp [Addr.add]
      rw [ha0] at hc00
      have ha := addr_plain hc00
      refine ⟨a.block, a.off, by rw [← ha], ?_, fun k hkl => ?_⟩
      · have := World.block_lt_of_cell? w _ hc00
        simpa [Addr.add] using this
      · obtain ⟨cs, h1, _, h2⟩ := hk k hkl
        refine ⟨cs, D k, h1, ?_, fun j u hj => ?_⟩
        · rw [hx1]
          exact bulk_elem (List.mem_map.2 ⟨k, by simp; omega, rfl⟩)
        · have := h2 j u hj
          rw [ha, add_none, add_none] at this
          exact this
/-- a struct's fields, each of one cell -/
theorem fields_open {t : TypeId} {fs : Array Field} (ht : Program.underlying Try.prog t = some (.struct fs)) {fuel : Nat} {cs : List Value} {x : DataW H × List MemPlace} (h : DataW.trod enc Try.prog w base spare held fuel t cs = some x) :
    ∃ n xs, x.1 = .agg xs ∧ xs.length = fs.size ∧ ∀ (i : Nat) (f : Field), fs[i]? = some f → f.offset = i → Program.cellsOf Try.prog f.type = 1 → ∀ u, cs[i]? = some u → ∃ y, xs[i]? = some y ∧ ∃ p, DataW.trod enc Try.prog w base spare held n f.type [u] = some (y, p) := by
  obtain ⟨xs, n, _, rfl, _, hxl, hf⟩ := DataW.trod_struct ht h
  refine ⟨n, xs.map (·.1), rfl, by simpa using hxl, fun i f hi ho hc u hu => ?_⟩
  have hlt : i < fs.size := (Array.getElem?_eq_some_iff.1 hi).1
  have hil := (List.getElem?_eq_some_iff.1 hu).1
  have g := hf i f hi
  rw [ho, hc] at g
  have e : (cs.drop i).take 1 = [u] := by
    rw [List.getElem?_eq_getElem hil] at hu
    injection hu with hu
    rw [List.drop_eq_getElem_cons hil, hu]
    rfl
  rw [e, List.getElem?_eq_getElem (by omega)] at g
  exact ⟨(xs[i]'(by omega)).1, by simp [List.getElem?_eq_getElem (show i < xs.length by omega)], _, g⟩
theorem bulk_field {d : DataW H} {xs : List (DataW H)} {i : Nat} (h : xs[i]? = some d) : Rows.uptoBulk d ≤ Rows.uptoBulk (.agg xs) := by
  have := bulk_mem (List.mem_of_getElem? h)
  simp only [Rows.uptoBulk]
  omega
/-- one write -/
def WR (w : World) (cs : List Value) (p : Int × List UInt8) (_ : DataW H) : Prop := ∃ Ad cd, cs = [.int .i64 p.1, .slice Ad p.2.length cd] ∧ BytesAt w.heap.size w Ad p.2
theorem two_of {cs : List Value} (h : cs.length = 2) : ∃ a b, cs = [a, b] := by
  match cs, h with
  | [a, b], _ => exact ⟨a, b, rfl⟩
theorem four_of {cs : List Value} (h : cs.length = 4) : ∃ a b c d, cs = [a, b, c, d] := by
  match cs, h with
  | [a, b, c, d], _ => exact ⟨a, b, c, d, rfl⟩
theorem write_open {fuel : Nat} {cs : List Value} {y : DataW H × List MemPlace} (h : DataW.trod enc Try.prog w base spare held fuel 34 cs = some y) (hl : cs.length = 2) : ∃ p, WR w cs p y.1 := by
  obtain ⟨a, b, rfl⟩ := two_of hl
  obtain ⟨n, xs, _, _, hf⟩ := fields_open Try.underlying34 h
  obtain ⟨y0, _, p0, h0⟩ := hf 0 _ rfl rfl (by kernel_rfl) a rfl
  obtain ⟨y1, _, p1, h1⟩ := hf 1 _ rfl rfl (by kernel_rfl) b rfl
  obtain ⟨z, hz, _, _⟩ := DataW.trod_int Try.underlying3 h0
  obtain ⟨A, l, c, hv, hb⟩ := bytes_open h1
  have hz' : a = .int .i64 z := by cases hz; rfl
  exact ⟨(z, l), A, c, by rw [hz', hv], hb⟩
theorem writes_open {fuel : Nat} {v : Value} {x : DataW H × List MemPlace} (h : DataW.trod enc Try.prog w base spare held fuel 40 [v] = some x) :
    ∃ A L c, v = .slice A (List.length L) c ∧ WritesAt w.heap.size w A L ∧ L.length ≤ Rows.uptoBulk x.1 := by
  obtain ⟨A, L, c, hv, h1, h2, h3⟩ := rows_open Try.underlying40 (size := 2) (by kernel_rfl) (by omega) (WR w) (fun _ _ _ h hl => write_open h hl) h
  refine ⟨A, L, c, hv, ⟨h1, fun h0 => ?_⟩, h2⟩
  obtain ⟨g, i, hA, hg, hk⟩ := h3 h0
  refine ⟨g, i, hA, hg, fun k hkl => ?_⟩
  obtain ⟨cs, y, ⟨Ad, cd, rfl, hb⟩, _, hc⟩ := hk k hkl
  exact ⟨Ad, cd, hc 0 _ rfl, hc 1 _ rfl, hb⟩
end
end Go.Proofs.Ytphnhhcefoghpaa
