/- The document's disk in memory (drydockref07). -/
import Derived.Test.YtphnhhcefoghpaaLaws
set_option linter.unusedVariables false
set_option linter.unusedSimpArgs false
set_option maxRecDepth 100000
namespace Go.Proofs.Ytphnhhcefoghpaa
open Go.EW Go.RowKit

def strW (l : List (List UInt8)) : List Value := l.map fun x => Value.string (str x)
theorem strW_one {l : List (List UInt8)} : ∀ v ∈ strW l, v.oneCell' = true := by
  intro v hv
  obtain ⟨b, _, rfl⟩ := List.mem_map.1 hv
  rfl
def RT (t : TypeId) : Prop := t = 52 ∨ t = 31 ∨ t = 9
instance (t : TypeId) : Decidable (RT t) := inferInstanceAs (Decidable (_ ∨ _ ∨ _))
def footR (B : Nat) (w : World) (i : Nat) : Prop := B ≤ i ∧ ∃ C t, Bk w i C t ∧ RT t
def RM (B : Nat) (w w' : World) : Prop := Mods (footR B w) w w'
theorem RM.refl (B : Nat) (w : World) : RM B w w := Mods.refl _ _
theorem footR_back {B : Nat} {w w' : World} {S : Nat → Prop} (h : Mods S w w') (hs : ∀ i, i < w.heap.size → S i → footR B w i) {i : Nat} (hi : i < w.heap.size) (hf : footR B w' i) : footR B w i := by
  by_cases hq : S i
  · exact hs i hi hq
  · obtain ⟨hB, C, t, hb, ht⟩ := hf
    have he := h.keep i hi hq
    exact ⟨hB, C, t, by unfold Bk at hb ⊢; rw [← he]; exact hb, ht⟩
theorem RM.trans {B : Nat} {w w' w'' : World} (h : RM B w w') (k : RM B w' w'') : RM B w w'' :=
  Mods.trans' h k fun i hi hf => footR_back h (fun _ _ h => h) hi hf
theorem RM.of_no {B : Nat} {w w' : World} (h : Mods No w w') : RM B w w' := h.no
theorem RM.below {B : Nat} {w w' : World} (h : RM B w w') (hB : B ≤ w.heap.size) : Below B w w' := Mods.below h hB fun i hi hf => by have := hf.1; omega
theorem RM.upd {B : Nat} {w w' : World} {g : Nat} {C C' : Array Value} {t : TypeId} (h : Upd w w' g C' t) (hb : Bk w g C t) (hB : B ≤ g) (ht : RT t) : RM B w w' :=
  h.mods.mono fun i _ hi => by subst hi; exact ⟨hB, C, t, hb, ht⟩
theorem bl_rm {B : Nat} {w w1 w2 : World} (h : Below B w w1) (hB : B ≤ w.heap.size) (k : RM B w1 w2) : Below B w w2 := bl_mods h hB k fun i hi hf => by have := hf.1; omega
theorem footR_not {B : Nat} {w : World} {g : Nat} {C : Array Value} {t : TypeId} (h : Bk w g C t) (ht : ¬ RT t) : ¬ footR B w g := fun ⟨_, C', t', hb', ht'⟩ => ht (by rw [(h.inj hb').2]; exact ht')
theorem foot_footR {B : Nat} {w : World} {i : Nat} (h : foot B w i) : ¬ footR B w i := by
  obtain ⟨_, C, t, hb, ht⟩ := h
  refine footR_not hb ?_
  rcases ht with rfl | rfl | rfl <;> decide
theorem footR_foot {B : Nat} {w : World} {i : Nat} (h : footR B w i) : ¬ foot B w i := fun h' => foot_footR h' h
theorem RM.bk {B : Nat} {w w' : World} (h : RM B w w') {g : Nat} {C : Array Value} {t : TypeId} (hb : Bk w g C t) (ht : ¬ RT t) : Bk w' g C t := Mods.bk h hb (footR_not hb ht)

/-- the document's disk, as it lies -/
structure RefAt (w : World) (B d gl go : Nat) (CL CO : Array Value) (cl co : Nat) (lf : Int) (ov : Nat → Value) (S : DS) : Prop where
  hd : Bk w d #[.slice (some ⟨gl, 0, none⟩) S.n cl, .slice (some ⟨go, 0, none⟩) S.n co, .int .i64 lf, .bool S.off] 52
  hl : Bk w gl CL 9
  ho : Bk w go CO 31
  Bd : B ≤ d
  Bl : B ≤ gl
  Bo : B ≤ go
  nle : S.n ≤ 480
  lf0 : -9223372036854775808 ≤ lf
  lf1 : lf ≤ 9223372036854775807
  lfS : S.left = if lf < -1 then -1 else lf
  last : ∀ i, i < S.n → CL[i]? = some (.string (str (S.last i)))
  row : ∀ i, i < S.n → CO[i]? = some (ov i)
  own : ∀ i, i < S.n → w.ownsRow B 9 1 (ov i) (S.opn i).length (strW (S.opn i))
  off : ∀ i, i < S.n → (ov i).ownBlock ≠ some gl
  apart : ∀ i j k, i < S.n → j < S.n → i ≠ j → (ov i).ownBlock = some k → (ov j).ownBlock ≠ some k
def Ref (w : World) (B d : Nat) (S : DS) : Prop := ∃ gl go CL CO cl co lf ov, RefAt w B d gl go CL CO cl co lf ov S
section
variable {w w1 w' : World} {B d gl go : Nat} {CL CO : Array Value} {cl co : Nat} {lf : Int} {ov : Nat → Value} {S : DS}
theorem RefAt.ref (h : RefAt w B d gl go CL CO cl co lf ov S) : Ref w B d S := ⟨_, _, _, _, _, _, _, _, h⟩
theorem RefAt.ownBk (h : RefAt w B d gl go CL CO cl co lf ov S) {i k : Nat} (hi : i < S.n) (hk : (ov i).ownBlock = some k) : B ≤ k ∧ ∃ cur, Bk w k cur 9 := own_bk (h.own i hi) hk
theorem RefAt.mods (h : RefAt w B d gl go CL CO cl co lf ov S) {S' : Nat → Prop} (hm : Mods S' w w') (hn : ∀ i, footR B w i → ¬ S' i) : RefAt w' B d gl go CL CO cl co lf ov S where
  hd := hm.bk h.hd (hn d ⟨h.Bd, _, _, h.hd, .inl rfl⟩)
  hl := hm.bk h.hl (hn gl ⟨h.Bl, _, _, h.hl, .inr (.inr rfl)⟩)
  ho := hm.bk h.ho (hn go ⟨h.Bo, _, _, h.ho, .inr (.inl rfl)⟩)
  Bd := h.Bd
  Bl := h.Bl
  Bo := h.Bo
  nle := h.nle
  lf0 := h.lf0
  lf1 := h.lf1
  lfS := h.lfS
  last := h.last
  row := h.row
  own := fun i hi => hm.own (h.own i hi) fun k hk => by
    obtain ⟨hb, cur, hc⟩ := h.ownBk hi hk
    exact hn k ⟨hb, cur, _, hc, .inr (.inr rfl)⟩
  off := h.off
  apart := h.apart
theorem RefAt.no (h : RefAt w B d gl go CL CO cl co lf ov S) (hm : Mods No w w') : RefAt w' B d gl go CL CO cl co lf ov S := h.mods hm fun _ _ h => h
theorem RefAt.dm (h : RefAt w B d gl go CL CO cl co lf ov S) (hm : DM B w w') : RefAt w' B d gl go CL CO cl co lf ov S := h.mods hm fun _ h h' => footR_foot h h'
theorem Ref.no (h : Ref w B d S) (hm : Mods No w w') : Ref w' B d S := by obtain ⟨_, _, _, _, _, _, _, _, h⟩ := h; exact (h.no hm).ref
theorem Ref.dm (h : Ref w B d S) (hm : DM B w w') : Ref w' B d S := by obtain ⟨_, _, _, _, _, _, _, _, h⟩ := h; exact (h.dm hm).ref
theorem Disk.rm {dd : Nat} (h : Disk w B dd S) (hm : RM B w w') : Disk w' B dd S := h.mods hm fun _ h h' => foot_footR h h'
theorem RefAt.cLast (h : RefAt w B d gl go CL CO cl co lf ov S) : w.cell? ⟨d, 0, none⟩ = some (.slice (some ⟨gl, 0, none⟩) S.n cl) := h.hd.cell rfl
theorem RefAt.cOpen (h : RefAt w B d gl go CL CO cl co lf ov S) : w.cell? ⟨d, 1, none⟩ = some (.slice (some ⟨go, 0, none⟩) S.n co) := h.hd.cell rfl
theorem RefAt.cLeft (h : RefAt w B d gl go CL CO cl co lf ov S) : w.cell? ⟨d, 2, none⟩ = some (.int .i64 lf) := h.hd.cell rfl
theorem RefAt.cOff (h : RefAt w B d gl go CL CO cl co lf ov S) : w.cell? ⟨d, 3, none⟩ = some (.bool S.off) := h.hd.cell rfl
theorem RefAt.cRow (h : RefAt w B d gl go CL CO cl co lf ov S) {i : Nat} (hi : i < S.n) : w.cell? ⟨go, 0 + i * 1, none⟩ = some (ov i) := h.ho.cell (by rw [Nat.zero_add, Nat.mul_one]; exact h.row i hi)
theorem RefAt.cStr (h : RefAt w B d gl go CL CO cl co lf ov S) {i : Nat} (hi : i < S.n) : w.cell? ⟨gl, 0 + i * 1, none⟩ = some (.string (str (S.last i))) := h.hl.cell (by rw [Nat.zero_add, Nat.mul_one]; exact h.last i hi)
/-- the struct's two values change -/
theorem RefAt.setPower (h : RefAt w B d gl go CL CO cl co lf ov S) {off : Bool} {lf' : Int} (h0 : -9223372036854775808 ≤ lf') (h1 : lf' ≤ 9223372036854775807)
    (hu : Upd w w' d #[.slice (some ⟨gl, 0, none⟩) S.n cl, .slice (some ⟨go, 0, none⟩) S.n co, .int .i64 lf', .bool off] 52) :
    RefAt w' B d gl go CL CO cl co lf' ov { S with off := off, left := if lf' < -1 then -1 else lf' } where
  hd := hu.bk
  hl := hu.mods.bk h.hl (fun e => by subst e; exact absurd (h.hl.inj h.hd).2 (by decide))
  ho := hu.mods.bk h.ho (fun e => by subst e; exact absurd (h.ho.inj h.hd).2 (by decide))
  Bd := h.Bd
  Bl := h.Bl
  Bo := h.Bo
  nle := h.nle
  lf0 := h0
  lf1 := h1
  lfS := rfl
  last := h.last
  row := h.row
  own := fun i hi => hu.mods.own (h.own i hi) fun k hk hkd => by
    obtain ⟨_, cur, hc⟩ := h.ownBk hi hk
    subst hkd
    exact absurd (h.hd.inj hc).2 (by decide)
  off := h.off
  apart := h.apart
/-- what lasts of a block changes -/
theorem RefAt.setLast (h : RefAt w B d gl go CL CO cl co lf ov S) {i : Nat} (hi : i < S.n) {l : List UInt8} (hu : Upd w w' gl (CL.setIfInBounds i (.string (str l))) 9) :
    RefAt w' B d gl go (CL.setIfInBounds i (.string (str l))) CO cl co lf ov { S with last := fup S.last i l } where
  hd := hu.mods.bk h.hd (fun e => by subst e; exact absurd (h.hl.inj h.hd).2 (by decide))
  hl := hu.bk
  ho := hu.mods.bk h.ho (fun e => by subst e; exact absurd (h.hl.inj h.ho).2 (by decide))
  Bd := h.Bd
  Bl := h.Bl
  Bo := h.Bo
  nle := h.nle
  lf0 := h.lf0
  lf1 := h.lf1
  lfS := h.lfS
  last := fun j hj => by
    by_cases hji : j = i
    · subst hji
      have hlt := (Array.getElem?_eq_some_iff.1 (h.last j hi)).1
      rw [Array.getElem?_setIfInBounds_self_of_lt hlt]
      show _ = some (Value.string (str (fup S.last j l j)))
      rw [fup_at]
    · rw [Array.getElem?_setIfInBounds_ne (fun e => hji e.symm)]
      show _ = some (Value.string (str (fup S.last i l j)))
      rw [fup_ne _ _ hji]
      exact h.last j hj
  row := h.row
  own := fun j hj => hu.mods.own (h.own j hj) fun k hk hkd => by subst hkd; exact h.off j hj hk
  off := h.off
  apart := h.apart
/-- a block's open writes change -/
theorem RefAt.setOpen (h : RefAt w B d gl go CL CO cl co lf ov S) {i : Nat} (hi : i < S.n) (hm : Mods (fun k => some k = (ov i).ownBlock) w w1) {v : Value} (hu : Upd w1 w' go (CO.setIfInBounds i v) 31) {os : List (List UInt8)}
    (hown : w1.ownsRow B 9 1 v os.length (strW os)) (hap : v.ownBlock = (ov i).ownBlock ∨ v.ownBlock = none ∨ ∃ k, v.ownBlock = some k ∧ w.heap.size ≤ k) :
    RefAt w' B d gl go CL (CO.setIfInBounds i v) cl co lf (fup ov i v) { S with opn := fup S.opn i os } := by
  have hnd : ¬ (some d = (ov i).ownBlock) := fun hh => own_ne (h.own i hi) h.hd (by decide) hh
  have hno : ¬ (some go = (ov i).ownBlock) := fun hh => own_ne (h.own i hi) h.ho (by decide) hh
  have hnl : ¬ (some gl = (ov i).ownBlock) := fun hh => h.off i hi hh.symm
  have ho1 := hm.bk h.ho hno
  have hlt := (Array.getElem?_eq_some_iff.1 (h.row i hi)).1
  have hne : ∀ j, j < S.n → j ≠ i → ∀ k, (ov j).ownBlock = some k → k < w.heap.size ∧ ¬ (some k = (ov i).ownBlock) ∧ k ≠ go := by
    intro j hj hji k hk
    obtain ⟨_, cur, hc⟩ := h.ownBk hj hk
    refine ⟨hc.lt, fun hh => h.apart j i k hj hi hji hk hh.symm, fun hh => ?_⟩
    subst hh
    exact absurd (h.ho.inj hc).2 (by decide)
  refine ⟨hu.mods.bk (hm.bk h.hd hnd) (fun e => by subst e; exact absurd (h.ho.inj h.hd).2 (by decide)), hu.mods.bk (hm.bk h.hl hnl) (fun e => by subst e; exact absurd (h.ho.inj h.hl).2 (by decide)), hu.bk,
    h.Bd, h.Bl, h.Bo, h.nle, h.lf0, h.lf1, h.lfS, h.last, fun j hj => ?_, fun j hj => ?_, fun j hj => ?_, fun j k b hj hk hjk hb hb' => ?_⟩
  · by_cases hji : j = i
    · subst hji; rw [fup_at, Array.getElem?_setIfInBounds_self_of_lt hlt]
    · rw [fup_ne _ _ hji, Array.getElem?_setIfInBounds_ne (fun e => hji e.symm)]; exact h.row j hj
  · show w'.ownsRow B _ 1 (fup ov i v j) (fup S.opn i os j).length (strW (fup S.opn i os j))
    by_cases hji : j = i
    · subst hji
      rw [fup_at, fup_at]
      exact hu.mods.own hown fun k hk hkg => by subst hkg; exact own_ne hown ho1 (by decide) hk.symm
    · rw [fup_ne _ _ hji, fup_ne _ _ hji]
      exact hu.mods.own (hm.own (h.own j hj) fun k hk => (hne j hj hji k hk).2.1) fun k hk => (hne j hj hji k hk).2.2
  · by_cases hji : j = i
    · subst hji
      rw [fup_at]
      rcases hap with ha | ha | ⟨k, ha, hk⟩
      · rw [ha]; exact h.off j hj
      · rw [ha]; simp
      · rw [ha]; intro e; injection e with e; have := h.hl.lt; omega
    · rw [fup_ne _ _ hji]; exact h.off j hj
  · by_cases hji : j = i
    · subst hji
      rw [fup_at] at hb
      rw [fup_ne _ _ (fun e => hjk e.symm)] at hb'
      obtain ⟨h1, h2, _⟩ := hne k hk (fun e => hjk e.symm) b hb'
      rcases hap with ha | ha | ⟨b', ha, hlt⟩
      · exact h2 (by rw [← ha, hb])
      · rw [ha] at hb; cases hb
      · rw [ha] at hb; injection hb with hb; omega
    · rw [fup_ne _ _ hji] at hb
      by_cases hki : k = i
      · subst hki
        rw [fup_at] at hb'
        obtain ⟨h1, h2, _⟩ := hne j hj hji b hb
        rcases hap with ha | ha | ⟨b', ha, hlt⟩
        · exact h2 (by rw [← ha, hb'])
        · rw [ha] at hb'; cases hb'
        · rw [ha] at hb'; injection hb' with hb'; omega
      · rw [fup_ne _ _ hki] at hb'
        exact h.apart j k b hj hk hjk hb hb'
/-- a row's header -/
theorem RefAt.form (h : RefAt w B d gl go CL CO cl co lf ov S) {i : Nat} (hi : i < S.n) : ∃ A c, ov i = .slice A (S.opn i).length c ∧ (0 < (S.opn i).length → ∃ o cur, A = some ⟨o, 0, none⟩ ∧ Bk w o cur 9 ∧ cur.toList.take (S.opn i).length = strW (S.opn i)) := by
  rcases (h.own i hi).2 with ⟨hv, h0⟩ | ⟨g', cap, cur, hv, hb, hg, _, _, _, ht⟩
  · exact ⟨none, 0, by rw [hv, h0], fun hl => by omega⟩
  · exact ⟨_, cap, hv, fun _ => ⟨g', cur, rfl, hg, by simpa using ht⟩⟩
theorem str_cell {o : Nat} {cur : Array Value} {os : List (List UInt8)} (hb : Bk w o cur 9) (ht : cur.toList.take os.length = strW os) {m : Nat} (hm : m < os.length) : w.cell? ⟨o, 0 + m * 1, none⟩ = some (.string (str os[m])) := by
  refine hb.cell ?_
  have h1 : (strW os)[m]? = some (.string (str os[m])) := by
    unfold strW
    rw [List.getElem?_map, List.getElem?_eq_getElem hm]
    rfl
  rw [← ht, List.getElem?_take, if_pos hm] at h1
  rw [Nat.zero_add, Nat.mul_one]
  simpa using h1
theorem RefAt.room (h : RefAt w B d gl go CL CO cl co lf ov S) {i : Nat} (hi : i < S.n) : (S.opn i).length ≤ 9223372036854775807 := by
  by_cases h0 : 0 < (S.opn i).length
  · obtain ⟨g', cap, cur', hv, _, _, hle, hcm, _⟩ := own_form (h.own i hi) h0
    simp only [maxLen] at hcm
    omega
  · omega

theorem rgoes_ok (h : RefAt w B d gl go CL CO cl co lf ov S) :
    Ret Try.prog 26 [ptr d] w fun v w' => v = .bool (decide ((spendS S).2 = 8)) ∧ (∃ lf', RefAt w' B d gl go CL CO cl co lf' ov (spendS S).1) ∧ RM B w w' := by
  have hl0 := h.lf0
  have hl1 := h.lf1
  have hS := h.lfS
  by_cases h0 : lf = 0
  · have hs0 : S.left = 0 := by rw [hS, h0]; rfl
    have hs : spendS S = ({ S with off := true }, 8) := by simp [spendS, hs0]
    rw [hs]
    refine Ret.enter Try.func26 rfl Try.ntmps26 rfl ?_
    simp only [argEnv, Nat.reduceAdd]
    refine E_seqR ?_
    refine EL_val (R_assign rfl) rfl rfl rfl ?_
    refine EL_nil ?_
    refine E_seq ?_
    refine E_seqR ?_
    refine EL_val (R_move rfl) rfl rfl rfl ?_
    refine EL_val (R_nilCheck rfl) rfl rfl rfl ?_
    refine EL_val (R_fieldAddr rfl K.fT52_2) rfl rfl rfl ?_
    refine EL_val (R_load rfl K.ag3 (h.cLeft)) rfl rfl rfl ?_
    first | refine EL_val (R_eql_t rfl rfl (by omega)) rfl rfl rfl ?_ | refine EL_val (R_eql_f rfl rfl (by omega)) rfl rfl rfl ?_
    refine EL_nil ?_
    refine E_cond_t rfl ?_
    refine E_seqR ?_
    refine EL_val (R_move rfl) rfl rfl rfl ?_
    refine EL_val (R_nilCheck rfl) rfl rfl rfl ?_
    refine EL_val (R_fieldAddr rfl K.fT52_3) rfl rfl rfl ?_
    refine EL_step rfl ?_
    refine EO_store1 rfl rfl K.sz4 rfl h.hd (by simp) ?_
    intro w1 hu
    refine EL_nil ?_
    refine E_seqR ?_
    refine EL_val (R_assign rfl) rfl rfl rfl ?_
    refine EL_nil ?_
    refine E_ret ?_
    refine thenQ_r ?_
    refine ret1 (.inr rfl) rfl rfl ?_
    refine ⟨rfl, ⟨lf, ?_⟩, RM.upd hu h.hd h.Bd (.inl rfl)⟩
    have := h.setPower hl0 hl1 hu
    rw [← hS] at this
    exact this
  · by_cases h1 : 0 < lf
    · have hsl : S.left = lf := by rw [hS, if_neg (by omega)]
      have hs : spendS S = ({ S with left := S.left - 1 }, 0) := by simp [spendS, hsl, h0, h1]
      rw [hs]
      refine Ret.enter Try.func26 rfl Try.ntmps26 rfl ?_
      simp only [argEnv, Nat.reduceAdd]
      refine E_seqR ?_
      refine EL_val (R_assign rfl) rfl rfl rfl ?_
      refine EL_nil ?_
      refine E_seq ?_
      refine E_seqR ?_
      refine EL_val (R_move rfl) rfl rfl rfl ?_
      refine EL_val (R_nilCheck rfl) rfl rfl rfl ?_
      refine EL_val (R_fieldAddr rfl K.fT52_2) rfl rfl rfl ?_
      refine EL_val (R_load rfl K.ag3 (h.cLeft)) rfl rfl rfl ?_
      first | refine EL_val (R_eql_t rfl rfl (by omega)) rfl rfl rfl ?_ | refine EL_val (R_eql_f rfl rfl (by omega)) rfl rfl rfl ?_
      refine EL_nil ?_
      refine E_cond_f rfl ?_
      refine E_skip ?_
      refine thenQ_n ?_
      refine E_seq ?_
      refine E_seqR ?_
      refine EL_val (R_move rfl) rfl rfl rfl ?_
      refine EL_val (R_nilCheck rfl) rfl rfl rfl ?_
      refine EL_val (R_fieldAddr rfl K.fT52_2) rfl rfl rfl ?_
      refine EL_val (R_load rfl K.ag3 (h.cLeft)) rfl rfl rfl ?_
      first | refine EL_val (R_gtr_t rfl rfl (by omega)) rfl rfl rfl ?_ | refine EL_val (R_gtr_f rfl rfl (by omega)) rfl rfl rfl ?_
      refine EL_nil ?_
      refine E_cond_t rfl ?_
      refine E_region ?_
      refine EL_val (R_move rfl) rfl rfl rfl ?_
      refine EL_val (R_nilCheck rfl) rfl rfl rfl ?_
      refine EL_val (R_fieldAddr rfl K.fT52_2) rfl rfl rfl ?_
      refine EL_val (R_load rfl K.ag3 (h.cLeft)) rfl rfl rfl ?_
      refine EL_val (R_sub_in rfl rfl (by omega) (by omega)) rfl rfl rfl ?_
      refine EL_val (R_nilCheck rfl) rfl rfl rfl ?_
      refine EL_val (R_fieldAddr rfl K.fT52_2) rfl rfl rfl ?_
      refine EL_step rfl ?_
      refine EO_store1 rfl rfl K.sz3 rfl h.hd (by simp) ?_
      intro w1 hu
      refine EL_nil ?_
      refine thenQ_n ?_
      refine E_seqR ?_
      refine EL_val (R_assign rfl) rfl rfl rfl ?_
      refine EL_nil ?_
      refine E_ret ?_
      refine ret1 (.inr rfl) rfl rfl ?_
      refine ⟨rfl, ⟨lf - 1, ?_⟩, RM.upd hu h.hd h.Bd (.inl rfl)⟩
      have := h.setPower (off := S.off) (lf' := lf - 1) (by omega) (by omega) hu
      rw [if_neg (by omega)] at this
      rw [hsl]
      exact this
    · have hs : spendS S = (S, 0) := by
        have : S.left ≠ 0 ∧ ¬ 0 < S.left := by rw [hS]; split <;> omega
        simp [spendS, this.1, this.2]
      rw [hs]
      refine Ret.enter Try.func26 rfl Try.ntmps26 rfl ?_
      simp only [argEnv, Nat.reduceAdd]
      refine E_seqR ?_
      refine EL_val (R_assign rfl) rfl rfl rfl ?_
      refine EL_nil ?_
      refine E_seq ?_
      refine E_seqR ?_
      refine EL_val (R_move rfl) rfl rfl rfl ?_
      refine EL_val (R_nilCheck rfl) rfl rfl rfl ?_
      refine EL_val (R_fieldAddr rfl K.fT52_2) rfl rfl rfl ?_
      refine EL_val (R_load rfl K.ag3 (h.cLeft)) rfl rfl rfl ?_
      first | refine EL_val (R_eql_t rfl rfl (by omega)) rfl rfl rfl ?_ | refine EL_val (R_eql_f rfl rfl (by omega)) rfl rfl rfl ?_
      refine EL_nil ?_
      refine E_cond_f rfl ?_
      refine E_skip ?_
      refine thenQ_n ?_
      refine E_seq ?_
      refine E_seqR ?_
      refine EL_val (R_move rfl) rfl rfl rfl ?_
      refine EL_val (R_nilCheck rfl) rfl rfl rfl ?_
      refine EL_val (R_fieldAddr rfl K.fT52_2) rfl rfl rfl ?_
      refine EL_val (R_load rfl K.ag3 (h.cLeft)) rfl rfl rfl ?_
      first | refine EL_val (R_gtr_t rfl rfl (by omega)) rfl rfl rfl ?_ | refine EL_val (R_gtr_f rfl rfl (by omega)) rfl rfl rfl ?_
      refine EL_nil ?_
      refine E_cond_f rfl ?_
      refine E_skip ?_
      refine thenQ_n ?_
      refine E_seqR ?_
      refine EL_val (R_assign rfl) rfl rfl rfl ?_
      refine EL_nil ?_
      refine E_ret ?_
      refine ret1 (.inr rfl) rfl rfl ?_
      exact ⟨rfl, ⟨lf, h⟩, RM.refl _ _⟩
theorem rkeep_ok (h : RefAt w B d gl go CL CO cl co lf ov S) {i : Nat} (hi : i < S.n) (k : Int) :
    Ret Try.prog 27 [ptr d, .int .i64 (i : Int), .int .i64 k] w fun v w' => (∃ CL' CO' ov', RefAt w' B d gl go CL' CO' cl co lf ov' (keepS S i k)) ∧ RM B w w' := by
  obtain ⟨Ao, ca, hov, hfo⟩ := h.form hi
  have hrow := h.cRow hi
  rw [hov] at hrow
  have hroom := h.room hi
  have hnle := h.nle
  have hCO := (Array.getElem?_eq_some_iff.1 (h.row i hi)).1
  have hCL := (Array.getElem?_eq_some_iff.1 (h.last i hi)).1
  have hC1 : ∀ v, CO.setIfInBounds (0 + i * 1) v = CO.setIfInBounds i v := fun v => by rw [Nat.zero_add, Nat.mul_one]
  have hC2 : ∀ v, CL.setIfInBounds (0 + i * 1) v = CL.setIfInBounds i v := fun v => by rw [Nat.zero_add, Nat.mul_one]
  by_cases h0 : 0 < k ∧ 0 < (S.opn i).length
  · obtain ⟨hk, hlen⟩ := h0
    obtain ⟨o, cur, rfl, ho, ht⟩ := hfo hlen
    obtain ⟨m, hm⟩ : ∃ m : Nat, m = min k.toNat (S.opn i).length := ⟨_, rfl⟩
    have hm1 : 1 ≤ m ∧ m ≤ (S.opn i).length := by omega
    have hL : keepL S i k = (S.opn i)[m - 1] := by
      unfold keepL
      rw [← hm]
      obtain ⟨q, rfl⟩ : ∃ q, m = q + 1 := ⟨m - 1, by omega⟩
      simp [List.getD_eq_getElem?_getD, List.getElem?_eq_getElem (show q < (S.opn i).length by omega)]
    have hx := str_cell ho ht (m := m - 1) (by omega)
    have key : ∀ {w2 w3 : World}, Mods No w w2 → Upd w2 w3 gl (CL.setIfInBounds (0 + i * 1) (.string (str (S.opn i)[m - 1]))) 9 → ∀ w4, Upd w3 w4 go (CO.setIfInBounds (0 + i * 1) (.slice none 0 0)) 31 →
        (∃ CL' CO' ov', RefAt w4 B d gl go CL' CO' cl co lf ov' (keepS S i k)) ∧ RM B w w4 := by
      intro w2 w3 hm2 hu3 w4 hu4
      rw [hC2] at hu3
      rw [hC1] at hu4
      have h2 := h.no hm2
      have h3 := h2.setLast hi hu3
      have h4 := h3.setOpen (i := i) hi (Mods.refl _ _) hu4 (os := []) (World.ownsRow_nil _ _ _ _) (.inr (.inl rfl))
      refine ⟨⟨CL.setIfInBounds i (.string (str (S.opn i)[m - 1])), CO.setIfInBounds i (.slice none 0 0), fup ov i (.slice none 0 0), ?_⟩, (RM.of_no hm2).trans ((RM.upd hu3 h2.hl h2.Bl (.inr (.inr rfl))).trans (RM.upd hu4 h3.ho h3.Bo (.inr (.inl rfl))))⟩
      unfold keepS
      rw [hL]
      exact h4
    by_cases hgt : ((S.opn i).length : Int) < k
    · have hmv : m = (S.opn i).length := by omega
      refine Ret.enter Try.func27 rfl Try.ntmps27 rfl ?_
      simp only [argEnv, Nat.reduceAdd]
      refine E_seq ?_
      refine E_seqR ?_
      refine EL_val (R_move rfl) rfl rfl rfl ?_
      refine EL_val (R_move rfl) rfl rfl rfl ?_
      refine EL_val (R_nilCheck rfl) rfl rfl rfl ?_
      refine EL_val (R_fieldAddr rfl K.fT52_1) rfl rfl rfl ?_
      refine EL_val (R_load rfl K.ag30 (h.cOpen)) rfl rfl rfl ?_
      refine EL_val (R_move rfl) rfl rfl rfl ?_
      refine EL_val (R_indexAddr rfl rfl Try.underlying30 K.sz31 (m := i) rfl hi) rfl rfl rfl ?_
      refine EL_val (R_load rfl K.ag31 (hrow)) rfl rfl rfl ?_
      refine EL_val (R_lenSlice rfl Try.underlying31) rfl rfl rfl ?_
      first | refine EL_val (R_gtr_t rfl rfl (by omega)) rfl rfl rfl ?_ | refine EL_val (R_gtr_f rfl rfl (by omega)) rfl rfl rfl ?_
      refine EL_nil ?_
      refine E_cond_t rfl ?_
      refine E_region ?_
      refine EL_val (R_move rfl) rfl rfl rfl ?_
      refine EL_val (R_nilCheck rfl) rfl rfl rfl ?_
      refine EL_val (R_fieldAddr rfl K.fT52_1) rfl rfl rfl ?_
      refine EL_val (R_load rfl K.ag30 (h.cOpen)) rfl rfl rfl ?_
      refine EL_val (R_move rfl) rfl rfl rfl ?_
      refine EL_val (R_indexAddr rfl rfl Try.underlying30 K.sz31 (m := i) rfl hi) rfl rfl rfl ?_
      refine EL_val (R_load rfl K.ag31 (hrow)) rfl rfl rfl ?_
      refine EL_val (R_lenSlice rfl Try.underlying31) rfl rfl rfl ?_
      refine EL_val (R_assign rfl) rfl rfl rfl ?_
      refine EL_nil ?_
      refine thenQ_n ?_
      refine E_seq ?_
      refine E_seqR ?_
      refine EL_val (R_move rfl) rfl rfl rfl ?_
      first | refine EL_val (R_gtr_t rfl rfl (by omega)) rfl rfl rfl ?_ | refine EL_val (R_gtr_f rfl rfl (by omega)) rfl rfl rfl ?_
      refine EL_nil ?_
      refine E_cond_t rfl ?_
      refine E_regionD (fun w' => [(17, fun w'' => w'' = w')]) 18 K.mix rfl ?_
      intro w2 hm2 hh2
      (have h2 := h.no hm2)
      refine EA_pure 0 rfl (fun _ => R_move rfl) (by kernel_rfl) rfl rfl rfl ?_
      refine EA_pure 1 rfl (fun _ => R_nilCheck rfl) (by kernel_rfl) rfl rfl rfl ?_
      refine EA_pure 2 rfl (fun _ => R_fieldAddr rfl K.fT52_0) (by kernel_rfl) rfl rfl rfl ?_
      refine EA_still 3 [16, 17] rfl (R_load rfl K.ag31 (h2.cLast)) rfl (by kernel_rfl) (by kernel_rfl) rfl rfl rfl ?_
      refine EA_pure 4 rfl (fun _ => R_move rfl) (by kernel_rfl) rfl rfl rfl ?_
      refine EA_pure 5 rfl (fun _ => R_move rfl) (by kernel_rfl) rfl rfl rfl ?_
      refine EA_pure 6 rfl (fun _ => R_nilCheck rfl) (by kernel_rfl) rfl rfl rfl ?_
      refine EA_pure 7 rfl (fun _ => R_fieldAddr rfl K.fT52_1) (by kernel_rfl) rfl rfl rfl ?_
      refine EA_still 8 [10, 11, 14, 15, 16, 17] rfl (R_load rfl K.ag30 (h2.cOpen)) rfl (by kernel_rfl) (by kernel_rfl) rfl rfl rfl ?_
      refine EA_pure 9 rfl (fun _ => R_move rfl) (by kernel_rfl) rfl rfl rfl ?_
      refine EA_pure 10 rfl (fun _ => R_indexAddr rfl rfl Try.underlying30 K.sz31 (m := i) rfl hi) (by kernel_rfl) rfl rfl rfl ?_
      refine EA_still 11 [14, 15, 16, 17] rfl (R_load rfl K.ag31 ((hm2.cell hrow id))) rfl (by kernel_rfl) (by kernel_rfl) rfl rfl rfl ?_
      refine EA_pure 12 rfl (fun _ => R_move rfl) (by kernel_rfl) rfl rfl rfl ?_
      refine EA_pure 13 rfl (fun _ => R_sub_in rfl rfl (by omega) (by omega)) (by kernel_rfl) rfl rfl rfl ?_
      refine EA_pure 14 rfl (fun _ => R_indexAddr rfl rfl Try.underlying31 K.sz9 (m := m - 1) (by omega) (by omega)) (by kernel_rfl) rfl rfl rfl ?_
      refine EA_still 15 [16, 17] rfl (R_load rfl K.ag9 ((hm2.cell hx id))) rfl (by kernel_rfl) (by kernel_rfl) rfl rfl rfl ?_
      refine EA_pure 16 rfl (fun _ => R_indexAddr rfl rfl Try.underlying31 K.sz9 (m := i) rfl hi) (by kernel_rfl) rfl rfl rfl ?_
      refine EA_one 17 rfl (by kernel_rfl) rfl ⟨fun _ => rfl, trivial⟩ ?_
      refine EO_store1 rfl rfl K.sz9 rfl h2.hl (by omega) ?_
      intro w3 hu3
      refine EA_done (by kernel_rfl) (Holds.done (by kernel_rfl)) ?_
      refine thenQ_n ?_
      refine E_region ?_
      refine EL_val (R_move rfl) rfl rfl rfl ?_
      refine EL_val (R_nilCheck rfl) rfl rfl rfl ?_
      refine EL_val (R_fieldAddr rfl K.fT52_1) rfl rfl rfl ?_
      refine EL_val (R_load rfl K.ag30 ((h2.setLast (l := (S.opn i)[m - 1]) hi (by rw [← hC2]; exact hu3)).cOpen)) rfl rfl rfl ?_
      refine EL_val (R_move rfl) rfl rfl rfl ?_
      refine EL_val (R_indexAddr rfl rfl Try.underlying30 K.sz31 (m := i) rfl hi) rfl rfl rfl ?_
      refine EL_step rfl ?_
      refine EO_store1 rfl rfl K.sz31 rfl (h2.setLast (l := (S.opn i)[m - 1]) hi (by rw [← hC2]; exact hu3)).ho (by omega) ?_
      intro w4 hu4
      refine EL_nil ?_
      refine ret0 (.inl rfl) rfl ?_
      exact key hm2 hu3 _ hu4
    · have hmv : m = k.toNat := by omega
      refine Ret.enter Try.func27 rfl Try.ntmps27 rfl ?_
      simp only [argEnv, Nat.reduceAdd]
      refine E_seq ?_
      refine E_seqR ?_
      refine EL_val (R_move rfl) rfl rfl rfl ?_
      refine EL_val (R_move rfl) rfl rfl rfl ?_
      refine EL_val (R_nilCheck rfl) rfl rfl rfl ?_
      refine EL_val (R_fieldAddr rfl K.fT52_1) rfl rfl rfl ?_
      refine EL_val (R_load rfl K.ag30 (h.cOpen)) rfl rfl rfl ?_
      refine EL_val (R_move rfl) rfl rfl rfl ?_
      refine EL_val (R_indexAddr rfl rfl Try.underlying30 K.sz31 (m := i) rfl hi) rfl rfl rfl ?_
      refine EL_val (R_load rfl K.ag31 (hrow)) rfl rfl rfl ?_
      refine EL_val (R_lenSlice rfl Try.underlying31) rfl rfl rfl ?_
      first | refine EL_val (R_gtr_t rfl rfl (by omega)) rfl rfl rfl ?_ | refine EL_val (R_gtr_f rfl rfl (by omega)) rfl rfl rfl ?_
      refine EL_nil ?_
      refine E_cond_f rfl ?_
      refine E_skip ?_
      refine thenQ_n ?_
      refine E_seq ?_
      refine E_seqR ?_
      refine EL_val (R_move rfl) rfl rfl rfl ?_
      first | refine EL_val (R_gtr_t rfl rfl (by omega)) rfl rfl rfl ?_ | refine EL_val (R_gtr_f rfl rfl (by omega)) rfl rfl rfl ?_
      refine EL_nil ?_
      refine E_cond_t rfl ?_
      refine E_regionD (fun w' => [(17, fun w'' => w'' = w')]) 18 K.mix rfl ?_
      intro w2 hm2 hh2
      (have h2 := h.no hm2)
      refine EA_pure 0 rfl (fun _ => R_move rfl) (by kernel_rfl) rfl rfl rfl ?_
      refine EA_pure 1 rfl (fun _ => R_nilCheck rfl) (by kernel_rfl) rfl rfl rfl ?_
      refine EA_pure 2 rfl (fun _ => R_fieldAddr rfl K.fT52_0) (by kernel_rfl) rfl rfl rfl ?_
      refine EA_still 3 [16, 17] rfl (R_load rfl K.ag31 (h2.cLast)) rfl (by kernel_rfl) (by kernel_rfl) rfl rfl rfl ?_
      refine EA_pure 4 rfl (fun _ => R_move rfl) (by kernel_rfl) rfl rfl rfl ?_
      refine EA_pure 5 rfl (fun _ => R_move rfl) (by kernel_rfl) rfl rfl rfl ?_
      refine EA_pure 6 rfl (fun _ => R_nilCheck rfl) (by kernel_rfl) rfl rfl rfl ?_
      refine EA_pure 7 rfl (fun _ => R_fieldAddr rfl K.fT52_1) (by kernel_rfl) rfl rfl rfl ?_
      refine EA_still 8 [10, 11, 14, 15, 16, 17] rfl (R_load rfl K.ag30 (h2.cOpen)) rfl (by kernel_rfl) (by kernel_rfl) rfl rfl rfl ?_
      refine EA_pure 9 rfl (fun _ => R_move rfl) (by kernel_rfl) rfl rfl rfl ?_
      refine EA_pure 10 rfl (fun _ => R_indexAddr rfl rfl Try.underlying30 K.sz31 (m := i) rfl hi) (by kernel_rfl) rfl rfl rfl ?_
      refine EA_still 11 [14, 15, 16, 17] rfl (R_load rfl K.ag31 ((hm2.cell hrow id))) rfl (by kernel_rfl) (by kernel_rfl) rfl rfl rfl ?_
      refine EA_pure 12 rfl (fun _ => R_move rfl) (by kernel_rfl) rfl rfl rfl ?_
      refine EA_pure 13 rfl (fun _ => R_sub_in rfl rfl (by omega) (by omega)) (by kernel_rfl) rfl rfl rfl ?_
      refine EA_pure 14 rfl (fun _ => R_indexAddr rfl rfl Try.underlying31 K.sz9 (m := m - 1) (by omega) (by omega)) (by kernel_rfl) rfl rfl rfl ?_
      refine EA_still 15 [16, 17] rfl (R_load rfl K.ag9 ((hm2.cell hx id))) rfl (by kernel_rfl) (by kernel_rfl) rfl rfl rfl ?_
      refine EA_pure 16 rfl (fun _ => R_indexAddr rfl rfl Try.underlying31 K.sz9 (m := i) rfl hi) (by kernel_rfl) rfl rfl rfl ?_
      refine EA_one 17 rfl (by kernel_rfl) rfl ⟨fun _ => rfl, trivial⟩ ?_
      refine EO_store1 rfl rfl K.sz9 rfl h2.hl (by omega) ?_
      intro w3 hu3
      refine EA_done (by kernel_rfl) (Holds.done (by kernel_rfl)) ?_
      refine thenQ_n ?_
      refine E_region ?_
      refine EL_val (R_move rfl) rfl rfl rfl ?_
      refine EL_val (R_nilCheck rfl) rfl rfl rfl ?_
      refine EL_val (R_fieldAddr rfl K.fT52_1) rfl rfl rfl ?_
      refine EL_val (R_load rfl K.ag30 ((h2.setLast (l := (S.opn i)[m - 1]) hi (by rw [← hC2]; exact hu3)).cOpen)) rfl rfl rfl ?_
      refine EL_val (R_move rfl) rfl rfl rfl ?_
      refine EL_val (R_indexAddr rfl rfl Try.underlying30 K.sz31 (m := i) rfl hi) rfl rfl rfl ?_
      refine EL_step rfl ?_
      refine EO_store1 rfl rfl K.sz31 rfl (h2.setLast (l := (S.opn i)[m - 1]) hi (by rw [← hC2]; exact hu3)).ho (by omega) ?_
      intro w4 hu4
      refine EL_nil ?_
      refine ret0 (.inl rfl) rfl ?_
      exact key hm2 hu3 _ hu4
  · have hL : keepL S i k = S.last i := by
      have : min k.toNat (S.opn i).length = 0 := by omega
      simp [keepL, this]
    have key : ∀ w4, Upd w w4 go (CO.setIfInBounds (0 + i * 1) (.slice none 0 0)) 31 →
        (∃ CL' CO' ov', RefAt w4 B d gl go CL' CO' cl co lf ov' (keepS S i k)) ∧ RM B w w4 := by
      intro w4 hu4
      rw [hC1] at hu4
      have h4 := h.setOpen (i := i) hi (Mods.refl _ _) hu4 (os := []) (World.ownsRow_nil _ _ _ _) (.inr (.inl rfl))
      refine ⟨⟨CL, CO.setIfInBounds i (.slice none 0 0), fup ov i (.slice none 0 0), ?_⟩, RM.upd hu4 h.ho h.Bo (.inr (.inl rfl))⟩
      unfold keepS
      rw [hL, fup_self]
      exact h4
    by_cases hgt : ((S.opn i).length : Int) < k
    · refine Ret.enter Try.func27 rfl Try.ntmps27 rfl ?_
      simp only [argEnv, Nat.reduceAdd]
      refine E_seq ?_
      refine E_seqR ?_
      refine EL_val (R_move rfl) rfl rfl rfl ?_
      refine EL_val (R_move rfl) rfl rfl rfl ?_
      refine EL_val (R_nilCheck rfl) rfl rfl rfl ?_
      refine EL_val (R_fieldAddr rfl K.fT52_1) rfl rfl rfl ?_
      refine EL_val (R_load rfl K.ag30 (h.cOpen)) rfl rfl rfl ?_
      refine EL_val (R_move rfl) rfl rfl rfl ?_
      refine EL_val (R_indexAddr rfl rfl Try.underlying30 K.sz31 (m := i) rfl hi) rfl rfl rfl ?_
      refine EL_val (R_load rfl K.ag31 (hrow)) rfl rfl rfl ?_
      refine EL_val (R_lenSlice rfl Try.underlying31) rfl rfl rfl ?_
      first | refine EL_val (R_gtr_t rfl rfl (by omega)) rfl rfl rfl ?_ | refine EL_val (R_gtr_f rfl rfl (by omega)) rfl rfl rfl ?_
      refine EL_nil ?_
      refine E_cond_t rfl ?_
      refine E_region ?_
      refine EL_val (R_move rfl) rfl rfl rfl ?_
      refine EL_val (R_nilCheck rfl) rfl rfl rfl ?_
      refine EL_val (R_fieldAddr rfl K.fT52_1) rfl rfl rfl ?_
      refine EL_val (R_load rfl K.ag30 (h.cOpen)) rfl rfl rfl ?_
      refine EL_val (R_move rfl) rfl rfl rfl ?_
      refine EL_val (R_indexAddr rfl rfl Try.underlying30 K.sz31 (m := i) rfl hi) rfl rfl rfl ?_
      refine EL_val (R_load rfl K.ag31 (hrow)) rfl rfl rfl ?_
      refine EL_val (R_lenSlice rfl Try.underlying31) rfl rfl rfl ?_
      refine EL_val (R_assign rfl) rfl rfl rfl ?_
      refine EL_nil ?_
      refine thenQ_n ?_
      refine E_seq ?_
      refine E_seqR ?_
      refine EL_val (R_move rfl) rfl rfl rfl ?_
      first | refine EL_val (R_gtr_t rfl rfl (by omega)) rfl rfl rfl ?_ | refine EL_val (R_gtr_f rfl rfl (by omega)) rfl rfl rfl ?_
      refine EL_nil ?_
      refine E_cond_f rfl ?_
      refine E_skip ?_
      refine thenQ_n ?_
      refine E_region ?_
      refine EL_val (R_move rfl) rfl rfl rfl ?_
      refine EL_val (R_nilCheck rfl) rfl rfl rfl ?_
      refine EL_val (R_fieldAddr rfl K.fT52_1) rfl rfl rfl ?_
      refine EL_val (R_load rfl K.ag30 (h.cOpen)) rfl rfl rfl ?_
      refine EL_val (R_move rfl) rfl rfl rfl ?_
      refine EL_val (R_indexAddr rfl rfl Try.underlying30 K.sz31 (m := i) rfl hi) rfl rfl rfl ?_
      refine EL_step rfl ?_
      refine EO_store1 rfl rfl K.sz31 rfl h.ho (by omega) ?_
      intro w4 hu4
      refine EL_nil ?_
      refine ret0 (.inl rfl) rfl ?_
      exact key _ hu4
    · refine Ret.enter Try.func27 rfl Try.ntmps27 rfl ?_
      simp only [argEnv, Nat.reduceAdd]
      refine E_seq ?_
      refine E_seqR ?_
      refine EL_val (R_move rfl) rfl rfl rfl ?_
      refine EL_val (R_move rfl) rfl rfl rfl ?_
      refine EL_val (R_nilCheck rfl) rfl rfl rfl ?_
      refine EL_val (R_fieldAddr rfl K.fT52_1) rfl rfl rfl ?_
      refine EL_val (R_load rfl K.ag30 (h.cOpen)) rfl rfl rfl ?_
      refine EL_val (R_move rfl) rfl rfl rfl ?_
      refine EL_val (R_indexAddr rfl rfl Try.underlying30 K.sz31 (m := i) rfl hi) rfl rfl rfl ?_
      refine EL_val (R_load rfl K.ag31 (hrow)) rfl rfl rfl ?_
      refine EL_val (R_lenSlice rfl Try.underlying31) rfl rfl rfl ?_
      first | refine EL_val (R_gtr_t rfl rfl (by omega)) rfl rfl rfl ?_ | refine EL_val (R_gtr_f rfl rfl (by omega)) rfl rfl rfl ?_
      refine EL_nil ?_
      refine E_cond_f rfl ?_
      refine E_skip ?_
      refine thenQ_n ?_
      refine E_seq ?_
      refine E_seqR ?_
      refine EL_val (R_move rfl) rfl rfl rfl ?_
      first | refine EL_val (R_gtr_t rfl rfl (by omega)) rfl rfl rfl ?_ | refine EL_val (R_gtr_f rfl rfl (by omega)) rfl rfl rfl ?_
      refine EL_nil ?_
      refine E_cond_f rfl ?_
      refine E_skip ?_
      refine thenQ_n ?_
      refine E_region ?_
      refine EL_val (R_move rfl) rfl rfl rfl ?_
      refine EL_val (R_nilCheck rfl) rfl rfl rfl ?_
      refine EL_val (R_fieldAddr rfl K.fT52_1) rfl rfl rfl ?_
      refine EL_val (R_load rfl K.ag30 (h.cOpen)) rfl rfl rfl ?_
      refine EL_val (R_move rfl) rfl rfl rfl ?_
      refine EL_val (R_indexAddr rfl rfl Try.underlying30 K.sz31 (m := i) rfl hi) rfl rfl rfl ?_
      refine EL_step rfl ?_
      refine EO_store1 rfl rfl K.sz31 rfl h.ho (by omega) ?_
      intro w4 hu4
      refine EL_nil ?_
      refine ret0 (.inl rfl) rfl ?_
      exact key _ hu4
end
end Go.Proofs.Ytphnhhcefoghpaa
