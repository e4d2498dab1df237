/- Words for the laws: slices of the call's own. -/
import Derived.Test.YtphnhhcefoghpaaArgs
set_option linter.unusedVariables false
set_option linter.unusedSimpArgs false
set_option maxRecDepth 100000
namespace Go.Proofs.Ytphnhhcefoghpaa
open Go.EW Go.RowKit Go.ChangeShapes Go.WideShapes Go.ChangeAt

/-- a slice of writes of the call's own: its cells -/
def WL (w : World) (B : Nat) : List (Int × List UInt8) → List Value → Prop
  | [], xs => xs = []
  | (a, l) :: r, xs => ∃ g c rest, xs = .int .i64 a :: .slice (some ⟨g, 0, none⟩) l.length c :: rest ∧ B ≤ g ∧ Bk w g (bv l) 5 ∧ WL w B r rest
theorem WL.len {w : World} {B : Nat} : ∀ {L : List (Int × List UInt8)} {xs : List Value}, WL w B L xs → xs.length = L.length * 2
  | [], xs, h => by rw [show xs = [] from h]; rfl
  | (a, l) :: r, xs, h => by
    obtain ⟨g, c, rest, rfl, _, _, h⟩ := h
    have := WL.len h
    simp only [List.length_cons, this]
    omega
theorem WL.mods {w w' : World} {B : Nat} {S : Nat → Prop} (hm : Mods S w w') (hs : ∀ g l, B ≤ g → Bk w g (bv l) 5 → ¬ S g) : ∀ {L : List (Int × List UInt8)} {xs : List Value}, WL w B L xs → WL w' B L xs
  | [], xs, h => h
  | (a, l) :: r, xs, h => by
    obtain ⟨g, c, rest, rfl, hB, hb, h⟩ := h
    exact ⟨g, c, rest, rfl, hB, hm.bk hb (hs g l hB hb), WL.mods hm hs h⟩
theorem WL.snoc {w : World} {B : Nat} {a : Int} {l : List UInt8} {g c : Nat} (hB : B ≤ g) (hb : Bk w g (bv l) 5) : ∀ {L : List (Int × List UInt8)} {xs : List Value}, WL w B L xs → WL w B (L ++ [(a, l)]) (xs ++ [.int .i64 a, .slice (some ⟨g, 0, none⟩) l.length c])
  | [], xs, h => by rw [show xs = [] from h]; exact ⟨g, c, [], rfl, hB, hb, rfl⟩
  | (a', l') :: r, xs, h => by
    obtain ⟨g', c', rest, rfl, hB', hb', h⟩ := h
    exact ⟨g', c', _, rfl, hB', hb', WL.snoc hB hb h⟩
theorem WL.at_ {w : World} {B : Nat} : ∀ {L : List (Int × List UInt8)} {xs : List Value}, WL w B L xs → ∀ (k : Nat) (hk : k < L.length), ∃ g c, xs[k * 2]? = some (.int .i64 L[k].1) ∧ xs[k * 2 + 1]? = some (.slice (some ⟨g, 0, none⟩) L[k].2.length c) ∧ B ≤ g ∧ Bk w g (bv L[k].2) 5
  | (a, l) :: r, xs, h, 0, _ => by
    obtain ⟨g, c, rest, rfl, hB, hb, h⟩ := h
    exact ⟨g, c, rfl, rfl, hB, hb⟩
  | (a, l) :: r, xs, h, k + 1, hk => by
    obtain ⟨g, c, rest, rfl, hB, hb, h⟩ := h
    obtain ⟨g', c', h1, h2, h3⟩ := WL.at_ h k (by simpa using hk)
    refine ⟨g', c', ?_, ?_, h3⟩
    · rw [show (k + 1) * 2 = k * 2 + 1 + 1 from by omega]
      simpa using h1
    · rw [show (k + 1) * 2 + 1 = k * 2 + 1 + 1 + 1 from by omega]
      simpa using h2
theorem WL.one {w : World} {B : Nat} : ∀ {L : List (Int × List UInt8)} {xs : List Value}, WL w B L xs → ∀ v ∈ xs, v.oneCell' = true
  | [], xs, h, v, hv => by rw [show xs = [] from h] at hv; cases hv
  | (a, l) :: r, xs, h, v, hv => by
    obtain ⟨g, c, rest, rfl, hB, hb, h⟩ := h
    rcases List.mem_cons.1 hv with rfl | hv
    · rfl
    · rcases List.mem_cons.1 hv with rfl | hv
      · rfl
      · exact WL.one h v hv
theorem WL.writes {w : World} {B base : Nat} {A : Option Addr} {c : Nat} {L : List (Int × List UInt8)} {xs : List Value} (h : WL w B L xs) (ho : w.ownsRow base 34 2 (.slice A L.length c) L.length xs) (hl : L.length ≤ 9223372036854775807) : Writes B w A L := by
  refine ⟨hl, fun h0 => ?_⟩
  obtain ⟨g, cap, cur, hv, hb, hbk, _, _, _, ht⟩ := own_form ho h0
  injection hv with hA
  subst hA
  refine ⟨g, 0, rfl, foot_not hbk (by decide), fun k hk => ?_⟩
  obtain ⟨g', c', h1, h2, hB, hb'⟩ := h.at_ k hk
  have hcur : ∀ (j : Nat) (u : Value), xs[j]? = some u → cur[0 + j]? = some u := by
    intro j u hu
    rw [← ht, List.getElem?_take] at hu
    split at hu
    · rw [Nat.zero_add]; simpa using hu
    · cases hu
  exact ⟨_, c', hbk.cell (hcur _ _ h1), hbk.cell (by rw [Nat.add_assoc]; exact hcur _ _ h2), BytesOff.bk hb'⟩

theorem ints_nil {B : Nat} {w : World} : IntsOff B w none 0 [] := ⟨⟨rfl, by omega, fun h => by omega⟩, fun g i h => by omega⟩
theorem mk64 : madeCells (Value.int .u8 0).cells (64 * 1) = bv zeros64 := by
  rw [show (Value.int .u8 0).cells = #[.int .u8 0] from rfl, madeCells_one]
  exact (bv_replicate 64).symm
section
variable {w w' : World} {base B : Nat} {e : TypeId} {size m : Nat} {v : Value} {xs : List Value}
theorem own_slice (h : w.ownsRow base e size v m xs) : ∃ A c, v = .slice A m c := by
  rcases h.2 with ⟨rfl, rfl⟩ | ⟨g, cap, cur, rfl, _⟩
  · exact ⟨none, 0, rfl⟩
  · exact ⟨_, cap, rfl⟩
theorem own_bk (h : w.ownsRow base e size v m xs) {g : Nat} (hg : v.ownBlock = some g) : base ≤ g ∧ ∃ cur, Bk w g cur e := by
  rcases h.2 with ⟨rfl, _⟩ | ⟨g', cap, cur, rfl, hb, hgg, _⟩
  · cases hg
  · have : g' = g := by simpa [Value.ownBlock] using hg
    subst this
    exact ⟨hb, cur, hgg⟩
theorem own_ne (h : w.ownsRow base e size v m xs) {g : Nat} {C : Array Value} {t : TypeId} (hb : Bk w g C t) (hne : e ≠ t) : ¬ (some g = v.ownBlock) := fun hh => by
  obtain ⟨_, cur, hc⟩ := own_bk h hh.symm
  exact hne (hc.inj hb).2
theorem own_nofoot (h : w.ownsRow base e size v m xs) (hne : ¬ (e = 62 ∨ e = 67 ∨ e = 64)) {i : Nat} (hf : foot B w i) : ¬ (some i = v.ownBlock) := fun hh => by
  obtain ⟨_, cur, hc⟩ := own_bk h hh.symm
  exact foot_not hc hne hf
theorem bl_own {W : World} (hbl : Below base W w) (hB : base ≤ W.heap.size) (h : w.ownsRow base e size v m xs) (hm : Mods (fun i => some i = v.ownBlock) w w') : Below base W w' :=
  bl_mods hbl hB hm fun i hi hh => by
    obtain ⟨hb, _⟩ := own_bk h hh.symm
    omega
theorem Disk.own {d : Nat} {S : DS} (hD : Disk w B d S) (h : w.ownsRow base e size v m xs) (hm : Mods (fun i => some i = v.ownBlock) w w') (hne : ¬ (e = 62 ∨ e = 67 ∨ e = 64)) : Disk w' B d S :=
  hD.mods hm fun i hf => own_nofoot h hne hf
end

/-- a text of 64 bytes: what a copy into zeros leaves -/
def pad64 (l : List UInt8) : List UInt8 := l.take 64 ++ List.replicate (64 - l.length) 0
theorem pad64_length (l : List UInt8) : (pad64 l).length = 64 := by simp [pad64]; omega
theorem splice_pad (l : List UInt8) : splice (bv zeros64) 0 (((l.map fun b => Value.int .u8 (b.toNat : Int)).take (min l.length 64)).toArray) = bv (pad64 l) := by
  have hb : (bv zeros64).toList = List.replicate 64 (.int .u8 0) := by
    rw [show bv zeros64 = Array.replicate 64 (.int .u8 0) from bv_replicate 64]; rfl
  unfold splice
  rw [hb]
  unfold bv pad64
  simp only [List.take_zero, List.nil_append, Nat.zero_add, List.size_toArray, List.map_append, List.map_replicate, List.map_take, List.length_take, List.length_map]
  congr 2
  · rw [show (List.take 64 (List.map (fun b : UInt8 => Value.int .u8 (b.toNat : Int)) l)) = List.take (min l.length 64) (List.map (fun b : UInt8 => Value.int .u8 (b.toNat : Int)) l) from by
      by_cases h : l.length ≤ 64
      · rw [Nat.min_eq_left h, List.take_of_length_le (by simpa using h), List.take_of_length_le (by simp)]
      · rw [Nat.min_eq_right (by omega)]]
  · rw [List.drop_replicate]
    congr 1
    omega
theorem BytesAt.src {B : Nat} {w : World} {A : Option Addr} {l : List UInt8} (h : BytesAt B w A l) : Src w A l.length 1 (l.map fun b => Value.int .u8 (b.toNat : Int)) :=
  ⟨by simp, fun h0 => by obtain ⟨g, i, hA, _, hc⟩ := h.2 h0; exact ⟨g, i, hA, hc⟩⟩
theorem src_bv {w : World} {g : Nat} {l : List UInt8} (h : Bk w g (bv l) 5) : Src w (some ⟨g, 0, none⟩) l.length 1 (l.map fun b => Value.int .u8 (b.toNat : Int)) :=
  ⟨by simp, fun _ => ⟨g, 0, rfl, h.cells 0 _ fun j v hv => by rw [Nat.zero_add]; exact hv⟩⟩
theorem src_cells {w : World} {g i : Nat} {l : List UInt8} (h : Cells w g i (bv l)) : Src w (some ⟨g, i, none⟩) l.length 1 (l.map fun b => Value.int .u8 (b.toNat : Int)) :=
  ⟨by simp, fun _ => ⟨g, i, rfl, h⟩⟩
theorem DiskAt.now_len {w : World} {B d g : Nat} {C : Array Value} {ov : Nat → Value} {S : DS} (h : DiskAt w B d g C ov S) {i : Nat} (hi : i < S.n) : (nowS S i).length = 64 := by
  unfold nowS
  cases hl : (S.opn i).getLast? with
  | none => exact (h.last i hi).1
  | some b => exact (h.opn i hi).1 b (List.mem_of_getLast? hl)
theorem one_bytes {l : List UInt8} : ∀ v ∈ l.map (fun b => Value.int .u8 (b.toNat : Int)), v.oneCell' = true := by
  intro v hv
  obtain ⟨b, _, rfl⟩ := List.mem_map.1 hv
  rfl
/-- a row of strings -/
def Strs (C : Array Value) (n : Nat) (f : Nat → List UInt8) : Prop := C.size = n ∧ ∀ i, i < n → C[i]? = some (.string (str (f i)))
theorem Strs.set {C : Array Value} {n i : Nat} {f : Nat → List UInt8} (h : Strs C n f) (hi : i < n) (l : List UInt8) : Strs (C.setIfInBounds i (.string (str l))) n (fup f i l) := by
  refine ⟨by simpa using h.1, fun j hj => ?_⟩
  by_cases hji : j = i
  · subst hji
    rw [fup_at, Array.getElem?_setIfInBounds_self_of_lt (by rw [h.1]; exact hi)]
  · rw [fup_ne _ _ hji, Array.getElem?_setIfInBounds_ne (fun e => hji e.symm)]
    exact h.2 j hj
/-- the writes to one block, in order -/
def putsTo (L : List (Int × List UInt8)) (j : Nat) : List (List UInt8) := (L.filter fun p => p.1.toNat == j).map (·.2)
theorem putsTo_snoc (L : List (Int × List UInt8)) (a : Int) (l : List UInt8) (j : Nat) : putsTo (L ++ [(a, l)]) j = putsTo L j ++ (if a.toNat = j then [l] else []) := by
  unfold putsTo
  rw [List.filter_append, List.map_append]
  congr 1
  by_cases h : a.toNat = j
  · simp [h]
  · simp [h]
/-- with power for ever all writes are done -/
theorem putL_free : ∀ (L : List (Int × List UInt8)) (S : DS), S.left = -1 → putL S L = ({ S with opn := fun j => S.opn j ++ putsTo L j }, 0)
  | [], S, h => by simp [putL, putsTo]
  | (a, b) :: r, S, h => by
    have hs : spendS S = (S, 0) := by simp [spendS, h]
    have h1 : putL S ((a, b) :: r) = putL { S with opn := fup S.opn a.toNat (S.opn a.toNat ++ [b]) } r := by simp [putL, hs]
    rw [h1, putL_free r { S with opn := fup S.opn a.toNat (S.opn a.toNat ++ [b]) } h]
    simp only [Prod.mk.injEq, DS.mk.injEq, true_and, and_true]
    funext j
    by_cases hj : j = a.toNat
    · subst hj
      rw [fup_at]
      simp [putsTo]
    · rw [fup_ne _ _ hj]
      simp [putsTo, show ¬ a.toNat = j from fun e => hj e.symm]
end Go.Proofs.Ytphnhhcefoghpaa
