/- A disk in memory: what its blocks hold, and which writes are open. -/
import Derived.Test.YtobhogdndfbniaaFacts
set_option linter.unusedVariables false
set_option linter.unusedSimpArgs false
namespace Go.Proofs.Ytobhogdndfbniaa
open Go.EW Go.RowKit

/-- bytes as cells -/
def bv (l : List UInt8) : Array Value := (l.map fun b => Value.int .u8 (b.toNat : Int)).toArray
theorem bv_size (l : List UInt8) : (bv l).size = l.length := by simp [bv]
theorem bv_replicate (n : Nat) : bv (List.replicate n 0) = Array.replicate n (.int .u8 0) := by
  unfold bv
  rw [List.map_replicate, List.toArray_replicate]
  rfl
theorem bv_one {l : List UInt8} : ∀ v ∈ bv l, v.oneCell' = true := by
  intro v hv
  simp [bv] at hv
  obtain ⟨b, _, rfl⟩ := hv
  rfl
theorem bv_inj {a b : List UInt8} (h : bv a = bv b) : a = b := by
  have h1 : (a.map fun b => Value.int .u8 (b.toNat : Int)) = b.map fun b => Value.int .u8 (b.toNat : Int) := by simpa [bv] using h
  clear h
  induction a generalizing b with
  | nil => cases b with
    | nil => rfl
    | cons y b => simp at h1
  | cons x a ih => cases b with
    | nil => simp at h1
    | cons y b =>
      simp only [List.map_cons, List.cons.injEq] at h1
      have : (x.toNat : Int) = y.toNat := by have := h1.1; injection this
      rw [ih h1.2, UInt8.toNat_inj.1 (show x.toNat = y.toNat by omega)]
/-- a disk's state: is the power off; how many writes and barriers it lasts; how many blocks; what lasts of a block, and its open writes -/
structure DS where
  off : Bool
  left : Int
  n : Nat
  last : Nat → List UInt8
  opn : Nat → List (List UInt8)
def rows (l : List (List UInt8)) : List Value := l.flatMap fun b => (bv b).toList
/-- block g is of one of the disk's own types -/
def DT (w : World) (i : Nat) : Prop := ∃ C t, Bk w i C t ∧ (t = 70 ∨ t = 74 ∨ t = 71)
def foot (B : Nat) (w : World) (i : Nat) : Prop := B ≤ i ∧ DT w i
/-- the disk's blocks in memory: struct at d, its row of blocks at g -/
structure DiskAt (w : World) (B d g : Nat) (C : Array Value) (ov : Nat → Value) (S : DS) : Prop where
  hd : Bk w d #[.bool S.off, .int .i64 S.left, .slice (some ⟨g, 0, none⟩) S.n S.n] 70
  hg : Bk w g C 74
  Bd : B ≤ d
  Bg : B ≤ g
  nle : S.n ≤ 480
  left0 : -1 ≤ S.left
  left1 : S.left ≤ 9223372036854775807
  size : C.size = S.n * 65
  last : ∀ i, i < S.n → (S.last i).length = 64 ∧ ∀ j v, (bv (S.last i))[j]? = some v → C[i * 65 + j]? = some v
  row : ∀ i, i < S.n → C[i * 65 + 64]? = some (ov i)
  opn : ∀ i, i < S.n → (∀ b ∈ S.opn i, b.length = 64) ∧ w.ownsRow B 71 64 (ov i) (S.opn i).length (rows (S.opn i))
  apart : ∀ i j k, i < S.n → j < S.n → i ≠ j → (ov i).ownBlock = some k → (ov j).ownBlock ≠ some k
def Disk (w : World) (B d : Nat) (S : DS) : Prop := ∃ g C ov, DiskAt w B d g C ov S
def DM (B : Nat) (w w' : World) : Prop := Mods (foot B w) w w'

theorem heap_lt {w : World} {i : Nat} {o : Obj} (h : w.heap[i]? = some o) : i < w.heap.size := by
  rcases Nat.lt_or_ge i w.heap.size with h' | h'
  · exact h'
  · rw [Array.getElem?_eq_none h'] at h; cases h
theorem DM.refl (B : Nat) (w : World) : DM B w w := Mods.refl _ _
theorem foot_back {B : Nat} {w w' : World} {S : Nat → Prop} (h : Mods S w w') (hs : ∀ i, i < w.heap.size → S i → foot B w i) {i : Nat} (hi : i < w.heap.size) (hf : foot B w' i) : foot B w i := by
  by_cases hq : S i
  · exact hs i hi hq
  · obtain ⟨hB, C, t, hb, ht⟩ := hf
    have he := h.keep i hi hq
    exact ⟨hB, C, t, by unfold Bk at hb ⊢; rw [← he]; exact hb, ht⟩
theorem DM.trans {B : Nat} {w w' w'' : World} (h : DM B w w') (k : DM B w' w'') : DM B w w'' :=
  Mods.trans' h k fun i hi hf => foot_back h (fun _ _ h => h) hi hf
theorem DM.of_no {B : Nat} {w w' : World} (h : Mods No w w') : DM B w w' := h.no
theorem DM.below {B : Nat} {w w' : World} (h : DM B w w') (hB : B ≤ w.heap.size) : Below B w w' := Mods.below h hB fun i hi hf => by have := hf.1; omega
theorem DM.upd {B : Nat} {w w' : World} {g : Nat} {C C' : Array Value} {t : TypeId} (h : Upd w w' g C' t) (hb : Bk w g C t) (hB : B ≤ g) (ht : t = 70 ∨ t = 74 ∨ t = 71) : DM B w w' :=
  h.mods.mono fun i _ hi => by subst hi; exact ⟨hB, C, t, hb, ht⟩
theorem bl_mods {B : Nat} {w w1 w2 : World} {S : Nat → Prop} (h : Below B w w1) (hB : B ≤ w.heap.size) (k : Mods S w1 w2) (hs : ∀ i, i < B → ¬ S i) : Below B w w2 :=
  h.trans (k.below (Nat.le_trans hB h.size) hs)
theorem bl_no {B : Nat} {w w1 w2 : World} (h : Below B w w1) (hB : B ≤ w.heap.size) (k : Mods No w1 w2) : Below B w w2 := bl_mods h hB k fun _ _ => id
theorem bl_dm {B : Nat} {w w1 w2 : World} (h : Below B w w1) (hB : B ≤ w.heap.size) (k : DM B w1 w2) : Below B w w2 := bl_mods h hB k fun i hi hf => by have := hf.1; omega
theorem bl_upd {B : Nat} {w w1 w2 : World} {g : Nat} {C : Array Value} {t : TypeId} (h : Below B w w1) (hB : B ≤ w.heap.size) (k : Upd w1 w2 g C t) (hg : B ≤ g) : Below B w w2 := bl_mods h hB k.mods fun i hi hf => by omega
/-- what is not the disk's stays -/
theorem DM.bk {B : Nat} {w w' : World} (h : DM B w w') {g : Nat} {C : Array Value} {t : TypeId} (hb : Bk w g C t) (ht : ¬ (t = 70 ∨ t = 74 ∨ t = 71)) : Bk w' g C t :=
  Mods.bk h hb fun ⟨_, C', t', hb', ht'⟩ => ht (by rw [(hb.inj hb').2]; exact ht')
section
variable {w w' : World} {B d g : Nat} {C : Array Value} {ov : Nat → Value} {S : DS}
theorem DiskAt.ownBk (h : DiskAt w B d g C ov S) {i k : Nat} (hi : i < S.n) (hk : (ov i).ownBlock = some k) : B ≤ k ∧ ∃ cur, Bk w k cur 71 := by
  rcases (h.opn i hi).2.2 with ⟨hv, _⟩ | ⟨g', cap, cur, hv, hb, hg, _⟩
  · rw [hv] at hk; cases hk
  · rw [hv] at hk
    have : g' = k := by simpa [Value.ownBlock] using hk
    subst this
    exact ⟨hb, cur, hg⟩
theorem DiskAt.mods (h : DiskAt w B d g C ov S) {S' : Nat → Prop} (hm : Mods S' w w') (hn : ∀ i, foot B w i → ¬ S' i) : DiskAt w' B d g C ov S where
  hd := hm.bk h.hd (hn d ⟨h.Bd, _, _, h.hd, .inl rfl⟩)
  hg := hm.bk h.hg (hn g ⟨h.Bg, _, _, h.hg, .inr (.inl rfl)⟩)
  Bd := h.Bd
  Bg := h.Bg
  nle := h.nle
  left0 := h.left0
  left1 := h.left1
  size := h.size
  last := h.last
  row := h.row
  opn := fun i hi => ⟨(h.opn i hi).1, hm.own (h.opn i hi).2 fun k hk => by
    obtain ⟨hb, cur, hc⟩ := h.ownBk hi hk
    exact hn k ⟨hb, cur, _, hc, .inr (.inr rfl)⟩⟩
  apart := h.apart
theorem DiskAt.no (h : DiskAt w B d g C ov S) (hm : Mods No w w') : DiskAt w' B d g C ov S := h.mods hm fun _ _ h => h
theorem Disk.no (h : Disk w B d S) (hm : Mods No w w') : Disk w' B d S := by obtain ⟨g, C, ov, h⟩ := h; exact ⟨g, C, ov, h.no hm⟩
theorem Disk.mods (h : Disk w B d S) {S' : Nat → Prop} (hm : Mods S' w w') (hn : ∀ i, foot B w i → ¬ S' i) : Disk w' B d S := by obtain ⟨g, C, ov, h⟩ := h; exact ⟨g, C, ov, h.mods hm hn⟩
theorem DiskAt.cOff (h : DiskAt w B d g C ov S) : w.cell? ⟨d, 0, none⟩ = some (.bool S.off) := h.hd.cell rfl
theorem DiskAt.cLeft (h : DiskAt w B d g C ov S) : w.cell? ⟨d, 1, none⟩ = some (.int .i64 S.left) := h.hd.cell rfl
theorem DiskAt.cRow (h : DiskAt w B d g C ov S) : w.cell? ⟨d, 2, none⟩ = some (.slice (some ⟨g, 0, none⟩) S.n S.n) := h.hd.cell rfl
theorem DiskAt.d_ne_g (h : DiskAt w B d g C ov S) : d ≠ g := h.hd.ne h.hg (by decide)
/-- the struct's two numbers change -/
theorem DiskAt.setPower (h : DiskAt w B d g C ov S) {off : Bool} {left : Int} (h0 : -1 ≤ left) (h1 : left ≤ 9223372036854775807) (hu : Upd w w' d #[.bool off, .int .i64 left, .slice (some ⟨g, 0, none⟩) S.n S.n] 70) :
    DiskAt w' B d g C ov { S with off := off, left := left } where
  hd := hu.bk
  hg := hu.mods.bk h.hg h.d_ne_g.symm
  Bd := h.Bd
  Bg := h.Bg
  nle := h.nle
  left0 := h0
  left1 := h1
  size := h.size
  last := h.last
  row := h.row
  opn := fun i hi => ⟨(h.opn i hi).1, hu.mods.own (h.opn i hi).2 fun k hk hkd => by
    obtain ⟨_, cur, hc⟩ := h.ownBk hi hk
    rw [hkd] at hc
    exact absurd (h.hd.inj hc).2 (by decide)⟩
  apart := h.apart
end

def fup {α : Type} (f : Nat → α) (i : Nat) (x : α) : Nat → α := fun k => if k = i then x else f k
theorem fup_at {α : Type} (f : Nat → α) (i : Nat) (x : α) : fup f i x i = x := by simp [fup]
theorem fup_ne {α : Type} (f : Nat → α) {i k : Nat} (x : α) (h : k ≠ i) : fup f i x k = f k := by simp [fup, h]
theorem fup_self {α : Type} (f : Nat → α) (i : Nat) : fup f i (f i) = f := by
  funext k
  unfold fup
  split
  · rename_i h; rw [h]
  · rfl
theorem DiskAt.g_ne_own {w : World} {B d g : Nat} {C : Array Value} {ov : Nat → Value} {S : DS} (h : DiskAt w B d g C ov S) {i : Nat} (hi : i < S.n) : ¬ (some g = (ov i).ownBlock) := fun hh => by
  obtain ⟨_, cur, hc⟩ := h.ownBk hi hh.symm
  exact absurd (h.hg.inj hc).2 (by decide)
theorem rows_length : ∀ {l : List (List UInt8)}, (∀ b ∈ l, b.length = 64) → (rows l).length = l.length * 64
  | [], _ => rfl
  | b :: r, h => by
    have h1 := rows_length (l := r) fun b hb => h b (by simp [hb])
    have h2 := h b (by simp)
    simp only [rows, List.flatMap_cons, List.length_append, List.length_cons, Array.length_toList, bv_size] at h1 ⊢
    omega
theorem rows_append (a b : List (List UInt8)) : rows (a ++ b) = rows a ++ rows b := by simp [rows]
theorem rows_at : ∀ {l : List (List UInt8)}, (∀ b ∈ l, b.length = 64) → ∀ (m : Nat) (hm : m < l.length) (j : Nat) (v : Value), (bv l[m])[j]? = some v → (rows l)[m * 64 + j]? = some v
  | b :: r, h, 0, _, j, v, hv => by
    have hj : j < (bv b).toList.length := by
      rcases Nat.lt_or_ge j (bv b).toList.length with h | h
      · exact h
      · have : (bv b)[j]? = none := Array.getElem?_eq_none (by simpa using h)
        simp at hv; rw [this] at hv; cases hv
    simp only [rows, List.flatMap_cons, Nat.zero_mul, Nat.zero_add]
    rw [List.getElem?_append_left hj]
    simpa using hv
  | b :: r, h, m + 1, hm, j, v, hv => by
    have h1 := rows_at (l := r) (fun b hb => h b (by simp [hb])) m (by simpa using hm) j v (by simpa using hv)
    have h2 : (bv b).toList.length = 64 := by simpa [bv_size] using h b (by simp)
    simp only [rows, List.flatMap_cons]
    rw [List.getElem?_append_right (by omega), h2, show (m + 1) * 64 + j - 64 = m * 64 + j from by omega]
    exact h1
section
variable {w w1 w' : World} {B d g : Nat} {C C' : Array Value} {ov : Nat → Value} {S : DS}
/-- one block changes -/
theorem DiskAt.setBlk (h : DiskAt w B d g C ov S) {i : Nat} (hi : i < S.n) (hm : Mods (fun k => some k = (ov i).ownBlock) w w1) (hu : Upd w1 w' g C' 74) {l : List UInt8} (hl : l.length = 64) {v : Value} {os : List (List UInt8)}
    (hsize : C'.size = C.size) (hlast : ∀ j u, (bv l)[j]? = some u → C'[i * 65 + j]? = some u) (hrow : C'[i * 65 + 64]? = some v) (hother : ∀ k, k < i * 65 ∨ i * 65 + 65 ≤ k → C'[k]? = C[k]?)
    (hos : ∀ b ∈ os, b.length = 64) (hown : w1.ownsRow B 71 64 v os.length (rows os)) (hap : v.ownBlock = (ov i).ownBlock ∨ v.ownBlock = none ∨ ∃ k, v.ownBlock = some k ∧ w.heap.size ≤ k) :
    DiskAt w' B d g C' (fup ov i v) { S with last := fup S.last i l, opn := fup S.opn i os } := by
  have hnd : ¬ (some d = (ov i).ownBlock) := fun hh => by
    obtain ⟨_, cur, hc⟩ := h.ownBk hi hh.symm
    exact absurd (h.hd.inj hc).2 (by decide)
  have hng : ¬ (some g = (ov i).ownBlock) := fun hh => by
    obtain ⟨_, cur, hc⟩ := h.ownBk hi hh.symm
    exact absurd (h.hg.inj hc).2 (by decide)
  have hg1 : Bk w1 g C 74 := hm.bk h.hg hng
  have hne : ∀ j, j < S.n → j ≠ i → ∀ k, (ov j).ownBlock = some k → k < w.heap.size ∧ ¬ (some k = (ov i).ownBlock) ∧ k ≠ g := by
    intro j hj hji k hk
    obtain ⟨_, cur, hc⟩ := h.ownBk hj hk
    refine ⟨hc.lt, fun hh => h.apart j i k hj hi hji hk hh.symm, fun hh => ?_⟩
    subst hh
    exact absurd (h.hg.inj hc).2 (by decide)
  refine ⟨hu.mods.bk (hm.bk h.hd hnd) h.d_ne_g, hu.bk, h.Bd, h.Bg, h.nle, h.left0, h.left1, by rw [hsize]; exact h.size, fun j hj => ?_, fun j hj => ?_, fun j hj => ?_, fun j k b hj hk hjk hb hb' => ?_⟩
  · by_cases hji : j = i
    · subst hji
      simp only [fup_at]
      exact ⟨hl, hlast⟩
    · simp only [fup_ne _ _ hji]
      refine ⟨(h.last j hj).1, fun t u hu => ?_⟩
      have ht : t < 64 := by
        rcases Nat.lt_or_ge t 64 with h' | h'
        · exact h'
        · rw [Array.getElem?_eq_none (by rw [bv_size, (h.last j hj).1]; exact h')] at hu; cases hu
      rw [hother _ (by omega)]
      exact (h.last j hj).2 t u hu
  · by_cases hji : j = i
    · subst hji
      simp only [fup_at]
      exact hrow
    · simp only [fup_ne _ _ hji]
      rw [hother _ (by omega)]
      exact h.row j hj
  · by_cases hji : j = i
    · subst hji
      simp only [fup_at]
      refine ⟨hos, hu.mods.own hown fun k hk hkg => ?_⟩
      subst hkg
      rcases hown.2 with ⟨hv, _⟩ | ⟨g', cap, cur, hv, hb, hgg, _⟩
      · rw [hv] at hk; cases hk
      · rw [hv] at hk
        have : g' = k := by simpa [Value.ownBlock] using hk
        subst this
        exact absurd (hg1.inj hgg).2 (by decide)
    · simp only [fup_ne _ _ hji]
      exact ⟨(h.opn j hj).1, hu.mods.own (hm.own (h.opn j hj).2 fun k hk => (hne j hj hji k hk).2.1) fun k hk => (hne j hj hji k hk).2.2⟩
  · by_cases hji : j = i
    · subst hji
      rw [fup_at] at hb
      rw [fup_ne _ _ (fun e => hjk e.symm)] at hb'
      obtain ⟨h1, h2, _⟩ := hne k hk (fun e => hjk e.symm) b hb'
      rcases hap with ha | ha | ⟨b', ha, hlt⟩
      · exact h2 (by rw [← ha, hb])
      · rw [ha] at hb; cases hb
      · rw [ha] at hb; injection hb with hb; omega
    · rw [fup_ne _ _ hji] at hb
      by_cases hki : k = i
      · subst hki
        rw [fup_at] at hb'
        obtain ⟨h1, h2, _⟩ := hne j hj hji b hb
        rcases hap with ha | ha | ⟨b', ha, hlt⟩
        · exact h2 (by rw [← ha, hb'])
        · rw [ha] at hb'; cases hb'
        · rw [ha] at hb'; injection hb' with hb'; omega
      · rw [fup_ne _ _ hki] at hb'
        exact h.apart j k b hj hk hjk hb hb'
/-- a block's header of open writes -/
theorem DiskAt.form (h : DiskAt w B d g C ov S) {i : Nat} (hi : i < S.n) : ∃ A c, ov i = .slice A (S.opn i).length c ∧ (0 < (S.opn i).length → ∃ o cur, A = some ⟨o, 0, none⟩ ∧ Bk w o cur 71 ∧ B ≤ o ∧ cur.toList.take ((S.opn i).length * 64) = rows (S.opn i)) := by
  rcases (h.opn i hi).2.2 with ⟨hv, h0⟩ | ⟨g', cap, cur, hv, hb, hg, _, _, _, ht⟩
  · exact ⟨none, 0, by rw [hv, h0], fun hl => by omega⟩
  · exact ⟨_, cap, hv, fun _ => ⟨g', cur, rfl, hg, hb, ht⟩⟩
/-- an open write as it lies -/
theorem DiskAt.cellsOpen {o : Nat} {cur : Array Value} {os : List (List UInt8)} (hos : ∀ b ∈ os, b.length = 64) (hb : Bk w o cur 71) (ht : cur.toList.take (os.length * 64) = rows os) {m : Nat} (hm : m < os.length) : Cells w o (0 + m * 64) (bv os[m]) := by
  refine hb.cells _ _ fun j v hv => ?_
  have h1 := rows_at hos m hm j v hv
  rw [← ht, List.getElem?_take] at h1
  split at h1
  · rw [Nat.zero_add]; simpa using h1
  · cases h1
end
end Go.Proofs.Ytobhogdndfbniaa
