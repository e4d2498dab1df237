/- The journal in memory; what it opens, and how its head moves (journal.Open, move, Look, Head, Read). -/
import Derived.Test.YtobhogdndfbniaaLook
set_option linter.unusedVariables false
set_option linter.unusedSimpArgs false
set_option maxRecDepth 100000
namespace Go.Proofs.Ytobhogdndfbniaa
open Go.EW Go.RowKit

/-- the writes to one block, in order -/
def putsTo (L : List (Int × List UInt8)) (j : Nat) : List (List UInt8) := (L.filter fun p => p.1.toNat == j).map (·.2)
theorem putsTo_snoc (L : List (Int × List UInt8)) (a : Int) (l : List UInt8) (j : Nat) : putsTo (L ++ [(a, l)]) j = putsTo L j ++ (if a.toNat = j then [l] else []) := by
  unfold putsTo
  rw [List.filter_append, List.map_append]
  congr 1
  by_cases h : a.toNat = j
  · simp [h]
  · simp [h]
/-- with power for ever all writes are done -/
theorem putL_free : ∀ (L : List (Int × List UInt8)) (S : DS), S.left = -1 → putL S L = ({ S with opn := fun j => S.opn j ++ putsTo L j }, 0)
  | [], S, h => by simp [putL, putsTo]
  | (a, b) :: r, S, h => by
    have hs : spendS S = (S, 0) := by simp [spendS, h]
    have h1 : putL S ((a, b) :: r) = putL { S with opn := fup S.opn a.toNat (S.opn a.toNat ++ [b]) } r := by simp [putL, hs]
    rw [h1, putL_free r { S with opn := fup S.opn a.toNat (S.opn a.toNat ++ [b]) } h]
    simp only [Prod.mk.injEq, DS.mk.injEq, true_and, and_true]
    funext j
    by_cases hj : j = a.toNat
    · subst hj
      rw [fup_at]
      simp [putsTo]
    · rw [fup_ne _ _ hj]
      simp [putsTo, show ¬ a.toNat = j from fun e => hj e.symm]
/-! ### a disk with power for ever -/
def Free (S : DS) : Prop := S.off = false ∧ S.left = -1
def putF (S : DS) (L : List (Int × List UInt8)) : DS := { S with opn := fun j => S.opn j ++ putsTo L j }
/-- writes that a disk of n blocks takes -/
def GoodW (n : Nat) (L : List (Int × List UInt8)) : Prop := ∀ p ∈ L, 0 ≤ p.1 ∧ p.1 < (n : Int) ∧ p.2.length = 64
theorem putS_free {S : DS} {L : List (Int × List UInt8)} (h : Free S) (hg : GoodW S.n L) : putS S L = (putF S L, 0) := by
  have h1 : badLen L = false := by
    unfold badLen
    rw [List.any_eq_false]
    intro p hp
    have := (hg p hp).2.2
    simp [this]
  have h2 : badAt S.n L = false := by
    unfold badAt
    rw [List.any_eq_false]
    intro p hp
    have := hg p hp
    simp
    omega
  unfold putS
  rw [h.1, h1, h2]
  simp only [Bool.false_eq_true, if_false]
  exact putL_free L S h.2
theorem barrierS_free {S : DS} (h : Free S) : barrierS S = (allS S, 0) := by
  have hs : spendS S = (S, 0) := by simp [spendS, h.2]
  simp [barrierS, h.1, hs]
theorem putF_free {S : DS} {L : List (Int × List UInt8)} (h : Free S) : Free (putF S L) := h
theorem allS_free {S : DS} (h : Free S) : Free (allS S) := h
theorem restartS_free (S : DS) (ks : List Int) : Free (restartS S ks) := ⟨rfl, rfl⟩
theorem allS_n (S : DS) : (allS S).n = S.n := rfl
theorem putF_n (S : DS) (L : List (Int × List UInt8)) : (putF S L).n = S.n := rfl
theorem allS_opn {S : DS} {i : Nat} (h : i < S.n) : (allS S).opn i = [] := by simp only [allS, keepAll]; rw [if_pos h]
theorem getD_last {α : Type} (a : α) (l : List α) : (a :: l).getD l.length a = (l.getLast?).getD a := by
  rw [List.getD_eq_getElem?_getD]
  have h : (a :: l)[l.length]? = (a :: l).getLast? := by rw [List.getLast?_eq_getElem?]; simp
  rw [h]
  cases l with
  | nil => rfl
  | cons b r =>
    rw [List.getLast?_cons_cons]
theorem allS_last {S : DS} {i : Nat} (h : i < S.n) : (allS S).last i = nowS S i := by
  simp only [allS, keepAll]
  rw [if_pos h]
  unfold keepL nowS
  rw [Int.toNat_natCast, Nat.min_self]
  have e := getD_last (S.last i) (S.opn i)
  rw [← e]
  rw [List.getD_eq_getElem?_getD, List.getD_eq_getElem?_getD]
  have hlt : (S.opn i).length < (S.last i :: S.opn i).length := by simp
  rw [List.getElem?_eq_getElem hlt]
  rfl
theorem allS_now {S : DS} {i : Nat} (h : i < S.n) : nowS (allS S) i = nowS S i := by
  have h1 := allS_opn h
  have h2 := allS_last h
  show (((allS S).opn i).getLast?).getD ((allS S).last i) = _
  rw [h1, h2]
  rfl
/-- the last write to a block -/
def lastW (L : List (Int × List UInt8)) (i : Nat) : Option (List UInt8) := (putsTo L i).getLast?
theorem putF_now (S : DS) (L : List (Int × List UInt8)) (i : Nat) : nowS (putF S L) i = (lastW L i).getD (nowS S i) := by
  show ((S.opn i ++ putsTo L i).getLast?).getD (S.last i) = _
  rw [List.getLast?_append]
  unfold lastW nowS
  cases (putsTo L i).getLast? <;> rfl
theorem putF_last (S : DS) (L : List (Int × List UInt8)) (i : Nat) : (putF S L).last i = S.last i := rfl
theorem putsTo_le (L : List (Int × List UInt8)) (i : Nat) : (putsTo L i).length ≤ L.length := by
  unfold putsTo
  rw [List.length_map]
  exact List.length_filter_le _ _
section
variable {w : World} {B d : Nat} {S : DS}
theorem put_on (hD : Disk w B d S) (hf : Free S) (hB : B ≤ w.heap.size) {A : Option Addr} {L : List (Int × List UInt8)} (hw : Writes B w A L) (c : Nat) (hg : GoodW S.n L) (hroom : ∀ i, i < S.n → (S.opn i).length + L.length ≤ 2199023255552) :
    Ret Try.prog 16 [ptr d, .slice A L.length c] w fun v w' => v = .int .i64 0 ∧ Disk w' B d (putF S L) ∧ DM B w w' := by
  obtain ⟨g, C, ov, h⟩ := hD
  have := put_ok h hB hw c hroom
  rw [putS_free hf hg] at this
  exact this
theorem barrier_on (hD : Disk w B d S) (hf : Free S) : Ret Try.prog 19 [ptr d] w fun v w' => v = .int .i64 0 ∧ Disk w' B d (allS S) ∧ DM B w w' := by
  obtain ⟨g, C, ov, h⟩ := hD
  have := barrier_ok h
  rw [barrierS_free hf] at this
  exact this
end
/-! ### the journal -/
def JT (t : TypeId) : Prop := t = 70 ∨ t = 74 ∨ t = 71 ∨ t = 59
instance (t : TypeId) : Decidable (JT t) := inferInstanceAs (Decidable (_ ∨ _ ∨ _ ∨ _))
theorem DM.jt {B : Nat} {w w' : World} (h : DM B w w') : TM JT B w w' := h.mono fun i _ ⟨hB, C, t, hb, ht⟩ => ⟨hB, C, t, hb, ht.elim .inl fun h => .inr (h.elim .inl fun h => .inr (.inl h))⟩
structure JS where
  st : DS
  hA : Nat
  hS : Int
  nA : Nat
  nS : Int
  used : Nat
structure JAt (w : World) (B d j : Nat) (J : JS) : Prop where
  bj : Bk w j #[ptr d, .int .i64 (J.hA : Int), .int .i64 J.hS, .int .i64 (J.nA : Int), .int .i64 J.nS, .int .i64 (J.used : Int), .bool false] 59
  disk : Disk w B d J.st
  free : Free J.st
  le : B ≤ j
section
variable {w w' : World} {B d j : Nat} {J : JS}
theorem JAt.next (h : JAt w B d j J) : Cells w j 3 #[.int .i64 (J.nA : Int), .int .i64 J.nS] := fun q u hq => by
  match q, hq with
  | 0, hq => exact h.bj.cell (by rw [← hq]; rfl)
  | 1, hq => exact h.bj.cell (by rw [← hq]; rfl)
  | q + 2, hq => rw [Array.getElem?_eq_none (by simp)] at hq; cases hq
theorem JAt.no (h : JAt w B d j J) (hm : Mods No w w') : JAt w' B d j J := ⟨hm.bk' h.bj, h.disk.no hm, h.free, h.le⟩
/-- what is neither the disk's nor the journal's own changes -/
theorem JAt.mods (h : JAt w B d j J) {S' : Nat → Prop} (hm : Mods S' w w') (hn : ∀ i C t, Bk w i C t → JT t → ¬ S' i) : JAt w' B d j J :=
  ⟨hm.bk h.bj (hn _ _ _ h.bj (.inr (.inr (.inr rfl)))), h.disk.mods hm fun i ⟨_, C, t, hb, ht⟩ => hn i C t hb (ht.elim .inl fun h => .inr (h.elim .inl fun h => .inr (.inl h))), h.free, h.le⟩
theorem JAt.upd (h : JAt w B d j J) {g : Nat} {C C' : Array Value} {t : TypeId} (hu : Upd w w' g C' t) (hb : Bk w g C t) (ht : ¬ JT t) : JAt w' B d j J :=
  h.mods hu.mods fun i C t hb' ht' e => by subst e; exact ht (by rw [(hb.inj hb').2]; exact ht')
/-- the disk goes on -/
theorem JAt.dm (h : JAt w B d j J) {S : DS} (hD : Disk w' B d S) (hf : Free S) (hm : DM B w w') : JAt w' B d j { J with st := S } := ⟨hm.bk h.bj (by decide), hD, hf, h.le⟩
end
theorem blocks_j {w : World} {B d j : Nat} {J : JS} (h : JAt w B d j J) : Ret Try.prog 20 [ptr d] w fun v w' => v = .int .i64 (J.st.n : Int) ∧ w = w' := blocks_on h.disk
/-- only the disk's own blocks and block j may have changed -/
def JMo (B j : Nat) (w w' : World) : Prop := Mods (fun i => foot B w i ∨ i = j) w w'
theorem DM.jm {B j : Nat} {w w' : World} (h : DM B w w') : JMo B j w w' := h.mono fun i _ hf => .inl hf
theorem JMo.of_no {B j : Nat} {w w' : World} (h : Mods No w w') : JMo B j w w' := h.no
theorem JMo.trans {B j : Nat} {w w' w'' : World} (h : JMo B j w w') (k : JMo B j w' w'') : JMo B j w w'' := Mods.trans' h k fun i hi hf => by
  by_cases hq : foot B w i ∨ i = j
  · exact hq
  · rcases hf with ⟨hB, C, t, hb, ht⟩ | rfl
    · have he := Mods.keep h i hi hq
      exact .inl ⟨hB, C, t, by unfold Bk at hb ⊢; rw [← he]; exact hb, ht⟩
    · exact .inr rfl
theorem JMo.upd {B j : Nat} {w w' : World} {C : Array Value} {t : TypeId} (h : Upd w w' j C t) : JMo B j w w' := h.mods.mono fun i _ hi => .inr hi
theorem JMo.tm {B j : Nat} {w w' : World} {C : Array Value} (h : JMo B j w w') (hb : Bk w j C 59) (hB : B ≤ j) : TM JT B w w' := h.mono fun i _ hi => by
  rcases hi with ⟨hB', C', t, hb', ht⟩ | rfl
  · exact ⟨hB', C', t, hb', ht.elim .inl fun h => .inr (h.elim .inl fun h => .inr (.inl h))⟩
  · exact ⟨hB, C, _, hb, .inr (.inr (.inr rfl))⟩
def moveS (S : DS) (a : Nat) (s : Int) : DS := allS (putF (allS S) [((1 : Int), headB (a : Int) s)])
theorem moveS_n (S : DS) (a : Nat) (s : Int) : (moveS S a s).n = S.n := rfl
theorem moveS_opn {S : DS} {a : Nat} {s : Int} {i : Nat} (h : i < S.n) : (moveS S a s).opn i = [] := allS_opn h
theorem moveS_free {S : DS} {a : Nat} {s : Int} (h : Free S) : Free (moveS S a s) := h
theorem moveS_last {S : DS} {a : Nat} {s : Int} {i : Nat} (h : i < S.n) : (moveS S a s).last i = if i = 1 then headB (a : Int) s else nowS S i := by
  unfold moveS
  rw [allS_last (by exact h), putF_now, allS_now h]
  unfold lastW putsTo
  by_cases h1 : i = 1
  · subst h1; rfl
  · rw [if_neg h1]
    have : ([((1 : Int), headB (a : Int) s)].filter fun p => p.1.toNat == i) = [] := by
      simp
      omega
    rw [this]
    rfl
theorem moveS_now {S : DS} {a : Nat} {s : Int} {i : Nat} (h : i < S.n) : nowS (moveS S a s) i = if i = 1 then headB (a : Int) s else nowS S i := by
  rw [← moveS_last h]
  unfold nowS
  rw [moveS_opn h]
  rfl
set_option maxHeartbeats 1000000 in
theorem move_okJ {w : World} {B d j : Nat} {J : JS} (h : JAt w B d j J) (hB : B ≤ w.heap.size) (hok : headOk (J.nA : Int) J.nS = true) (hn : 64 ≤ J.st.n) :
    Ret Try.prog 24 [ptr j] w fun v w' => v = .int .i64 0 ∧ JAt w' B d j { J with st := moveS J.st J.nA J.nS, hA := J.nA, hS := J.nS, used := 0 } ∧ JMo B j w w' := by
  have hbl := headB_length (J.nA : Int) J.nS
  have hgood : GoodW (allS J.st).n [((1 : Int), headB (J.nA : Int) J.nS)] := fun p hp => by
    rw [List.mem_singleton.1 hp]
    exact ⟨by simp, by show (1 : Int) < (J.st.n : Int); omega, hbl⟩
  refine Ret.enter Try.func24 rfl Try.ntmps24 rfl ?_
  simp only [argEnv, Nat.reduceAdd]
  refine E_seqR ?_
  refine EL_val (R_assign rfl) rfl rfl rfl ?_
  refine EL_nil ?_
  refine E_seqR ?_
  refine EL_val (R_move rfl) rfl rfl rfl ?_
  refine EL_val (R_nilCheck rfl) rfl rfl rfl ?_
  refine EL_val (R_fieldAddr rfl K.fT59_2) rfl rfl rfl ?_
  refine EL_val (R_loadAgg rfl K.ag46 (h.next) (K.sz46)) rfl rfl rfl ?_
  refine EL_step rfl ?_
  refine EO_call K.bd39 rfl rfl ((by have := puthead_ok (w := w) (a := (J.nA : Int)) (s := J.nS); rw [hok] at this; exact this)) ?_
  rintro _ w1 ⟨⟨u, rfl, ho⟩, hm1⟩
  (obtain ⟨Au, cu, rfl, _, _⟩ := own_sl ho; have h1 := h.no hm1; have hs1 := hm1.size)
  refine EL_val (R_move rfl) rfl rfl rfl ?_
  refine EL_val (R_extract rfl rfl) rfl rfl rfl ?_
  refine EL_val (R_extract rfl rfl) rfl rfl rfl ?_
  refine EL_val (R_assign rfl) rfl rfl rfl ?_
  refine EL_val (R_assign rfl) rfl rfl rfl ?_
  refine EL_nil ?_
  refine E_seq ?_
  refine E_seqR ?_
  refine EL_val (R_move rfl) rfl rfl rfl ?_
  first | refine EL_val (R_eql_t rfl rfl (by omega)) rfl rfl rfl ?_ | refine EL_val (R_eql_f rfl rfl (by omega)) rfl rfl rfl ?_
  refine EL_nil ?_
  refine E_cond_t rfl ?_
  refine E_region ?_
  refine EL_val (R_move rfl) rfl rfl rfl ?_
  refine EL_val (R_nilCheck rfl) rfl rfl rfl ?_
  refine EL_val (R_fieldAddr rfl K.fT59_0) rfl rfl rfl ?_
  refine EL_val (R_load rfl K.ag29 (h1.bj.cell rfl)) rfl rfl rfl ?_
  refine EL_step rfl ?_
  refine EO_call K.bd19 rfl rfl (barrier_on h1.disk h1.free) ?_
  rintro _ w2 ⟨rfl, hD2, hm2⟩
  (have h2 := h1.dm hD2 (allS_free h1.free) hm2; have ho2 := hm2.jt.own ho (by decide); have hs2 := hm2.size)
  refine EL_val (R_assign rfl) rfl rfl rfl ?_
  refine EL_nil ?_
  refine thenQ_n ?_
  refine E_seq ?_
  refine E_seqR ?_
  refine EL_val (R_move rfl) rfl rfl rfl ?_
  first | refine EL_val (R_eql_t rfl rfl (by omega)) rfl rfl rfl ?_ | refine EL_val (R_eql_f rfl rfl (by omega)) rfl rfl rfl ?_
  refine EL_nil ?_
  refine E_cond_t rfl ?_
  refine E_region ?_
  refine EL_val (R_move rfl) rfl rfl rfl ?_
  refine EL_val (R_nilCheck rfl) rfl rfl rfl ?_
  refine EL_val (R_fieldAddr rfl K.fT59_0) rfl rfl rfl ?_
  refine EL_val (R_load rfl K.ag29 (h2.bj.cell rfl)) rfl rfl rfl ?_
  refine EL_val (R_move rfl) rfl rfl rfl ?_
  refine EL_val (R_build (cells := #[.int .i64 1, .slice Au (headB (J.nA : Int) J.nS).length cu]) K.zr35 K.pl35 rfl rfl) rfl rfl rfl ?_
  refine EL_step rfl ?_
  refine EO_buildSlice Try.underlying42 K.zr35 K.sz35 rfl rfl rfl (fill_whole rfl (by rw [size_madeCells])) rfl ?_
  intro w3 hn3
  (have h3 := h2.no hn3.mods; have ho3 := hn3.mods.own ho2 (fun _ _ h => h); have hs3 := hn3.size)
  refine EL_step rfl ?_
  refine EO_call K.bd16 rfl rfl (put_on h3.disk h3.free (by omega) (writes_one hn3.bk ho3) 1 hgood (fun i hi => by show ((allS J.st).opn i).length + _ ≤ _; rw [allS_opn (S := J.st) hi]; simp)) ?_
  rintro _ w4 ⟨rfl, hD4, hm4⟩
  (have h4 := h3.dm hD4 (putF_free h3.free) hm4; have hs4 := hm4.size)
  refine EL_val (R_assign rfl) rfl rfl rfl ?_
  refine EL_nil ?_
  refine thenQ_n ?_
  refine E_seq ?_
  refine E_seqR ?_
  refine EL_val (R_move rfl) rfl rfl rfl ?_
  first | refine EL_val (R_eql_t rfl rfl (by omega)) rfl rfl rfl ?_ | refine EL_val (R_eql_f rfl rfl (by omega)) rfl rfl rfl ?_
  refine EL_nil ?_
  refine E_cond_t rfl ?_
  refine E_region ?_
  refine EL_val (R_move rfl) rfl rfl rfl ?_
  refine EL_val (R_nilCheck rfl) rfl rfl rfl ?_
  refine EL_val (R_fieldAddr rfl K.fT59_0) rfl rfl rfl ?_
  refine EL_val (R_load rfl K.ag29 (h4.bj.cell rfl)) rfl rfl rfl ?_
  refine EL_step rfl ?_
  refine EO_call K.bd19 rfl rfl (barrier_on h4.disk h4.free) ?_
  rintro _ w5 ⟨rfl, hD5, hm5⟩
  (have h5 := h4.dm hD5 (allS_free h4.free) hm5)
  refine EL_val (R_assign rfl) rfl rfl rfl ?_
  refine EL_nil ?_
  refine thenQ_n ?_
  refine E_seqR ?_
  refine EL_val (R_move rfl) rfl rfl rfl ?_
  refine EL_val (R_move rfl) rfl rfl rfl ?_
  refine EL_val (R_move rfl) rfl rfl rfl ?_
  refine EL_val (R_nilCheck rfl) rfl rfl rfl ?_
  refine EL_val (R_fieldAddr rfl K.fT59_2) rfl rfl rfl ?_
  refine EL_val (R_loadAgg rfl K.ag46 (h5.next) (K.sz46)) rfl rfl rfl ?_
  refine EL_val (R_nilCheck rfl) rfl rfl rfl ?_
  refine EL_val (R_fieldAddr rfl K.fT59_1) rfl rfl rfl ?_
  refine EL_step rfl ?_
  refine EO_storeAggB h5.bj rfl rfl K.sz46 rfl rfl ?_
  intro w6 hu6
  (have hb6 : Bk w6 j #[ptr d, .int .i64 (J.nA : Int), .int .i64 J.nS, .int .i64 (J.nA : Int), .int .i64 J.nS, .int .i64 (J.used : Int), .bool false] 59 := hu6.bk)
  refine EL_val (R_nilCheck rfl) rfl rfl rfl ?_
  refine EL_val (R_fieldAddr rfl K.fT59_3) rfl rfl rfl ?_
  refine EL_step rfl ?_
  refine EO_store1 rfl rfl K.sz3 rfl hb6 (by show 5 < 7; omega) ?_
  intro w7 hu7
  refine EL_nil ?_
  refine E_seqR ?_
  refine EL_val (R_move rfl) rfl rfl rfl ?_
  refine EL_val (R_assign rfl) rfl rfl rfl ?_
  refine EL_nil ?_
  refine E_ret ?_
  refine ret1 (.inr rfl) rfl rfl ?_
  have hD6 := h5.disk.mods hu6.mods fun i hf e => by subst e; exact foot_not h5.bj (by decide) hf
  have hD7 := hD6.mods hu7.mods fun i hf e => by subst e; exact foot_not hb6 (by decide) hf
  exact ⟨rfl, ⟨hu7.bk, hD7, moveS_free h.free, h.le⟩, ((((((JMo.of_no hm1).trans hm2.jm).trans (JMo.of_no hn3.mods)).trans hm4.jm).trans hm5.jm).trans (JMo.upd hu6)).trans (JMo.upd hu7)⟩
theorem move_ok {w : World} {B d j : Nat} {J : JS} (h : JAt w B d j J) (hB : B ≤ w.heap.size) (hok : headOk (J.nA : Int) J.nS = true) (hn : 64 ≤ J.st.n) :
    Ret Try.prog 24 [ptr j] w fun v w' => v = .int .i64 0 ∧ JAt w' B d j { J with st := moveS J.st J.nA J.nS, hA := J.nA, hS := J.nS, used := 0 } ∧ TM JT B w w' :=
  (move_okJ h hB hok hn).mono fun v w' ⟨h1, h2, h3⟩ => ⟨h1, h2, h3.tm h.bj h.le⟩
/-- a look -/
theorem look_none {w : World} {B d : Nat} {S : DS} (hD : Disk w B d S) (hf : Free S) (h64 : ¬ S.n < 64) (hg : getHeadS (nowS S 1) = none) :
    Ret Try.prog 14 [ptr d] w fun v w' => v = .tuple #[.slice none 0 0, .int .i64 2] ∧ Mods No w w' := by
  have hl := look_walk (R := fun v w' => v = .tuple #[.slice none 0 0, .slice none 0 0, .agg #[.int .i64 0, .int .i64 0], .int .i64 2] ∧ Mods No w w') hD hf.1 h64 (fun _ w' hm => ⟨rfl, hm⟩) (fun a0 s T H h => by rw [hg] at h; cases h)
  refine Ret.enter Try.func14 rfl Try.ntmps14 rfl ?_
  simp only [argEnv, Nat.reduceAdd]
  refine E_seqR ?_
  refine EL_val (R_assign rfl) rfl rfl rfl ?_
  refine EL_val (R_assign rfl) rfl rfl rfl ?_
  refine EL_nil ?_
  refine E_seqR ?_
  refine EL_val (R_move rfl) rfl rfl rfl ?_
  refine EL_step rfl ?_
  refine EO_call K.bd27 rfl rfl (hl) ?_
  rintro _ w1 ⟨rfl, hm1⟩
  refine EL_val (R_move rfl) rfl rfl rfl ?_
  refine EL_val (R_extract rfl rfl) rfl rfl rfl ?_
  refine EL_val (R_extract rfl rfl) rfl rfl rfl ?_
  refine EL_val (R_extract rfl rfl) rfl rfl rfl ?_
  refine EL_val (R_extract rfl rfl) rfl rfl rfl ?_
  refine EL_step rfl ?_
  refine EO_alloc K.zr46 rfl ?_
  intro w2 hn2
  refine EL_val (R_assign rfl) rfl rfl rfl ?_
  refine EL_val (R_assign rfl) rfl rfl rfl ?_
  refine EL_step rfl ?_
  refine EO_storeWhole hn2.bk rfl rfl K.sz46 rfl rfl ?_
  intro w3 hu3
  refine EL_val (R_assign rfl) rfl rfl rfl ?_
  refine EL_nil ?_
  refine E_seq ?_
  refine E_seqR ?_
  refine EL_val (R_move rfl) rfl rfl rfl ?_
  first | refine EL_val (R_neq_t rfl rfl (by omega)) rfl rfl rfl ?_ | refine EL_val (R_neq_f rfl rfl (by omega)) rfl rfl rfl ?_
  refine EL_nil ?_
  refine E_cond_t rfl ?_
  refine E_seqR ?_
  refine EL_val (R_move rfl) rfl rfl rfl ?_
  refine EL_val (R_assign rfl) rfl rfl rfl ?_
  refine EL_val (R_assign rfl) rfl rfl rfl ?_
  refine EL_nil ?_
  refine E_ret ?_
  refine thenQ_r ?_
  refine ret2 (.inr rfl) rfl rfl rfl ?_
  exact ⟨rfl, (hm1.trans hn2.mods).trans' hu3.mods fun k hk e => by have := hm1.size; omega⟩
theorem look_less {w : World} {B d : Nat} {S : DS} (hD : Disk w B d S) (h64 : S.n < 64) :
    Ret Try.prog 14 [ptr d] w fun v w' => v = .tuple #[.slice none 0 0, .int .i64 1] ∧ Mods No w w' := by
  refine Ret.enter Try.func14 rfl Try.ntmps14 rfl ?_
  simp only [argEnv, Nat.reduceAdd]
  refine E_seqR ?_
  refine EL_val (R_assign rfl) rfl rfl rfl ?_
  refine EL_val (R_assign rfl) rfl rfl rfl ?_
  refine EL_nil ?_
  refine E_seqR ?_
  refine EL_val (R_move rfl) rfl rfl rfl ?_
  refine EL_step rfl ?_
  refine EO_call K.bd27 rfl rfl (look_small hD h64) ?_
  rintro _ w1 ⟨rfl, hm1⟩
  refine EL_val (R_move rfl) rfl rfl rfl ?_
  refine EL_val (R_extract rfl rfl) rfl rfl rfl ?_
  refine EL_val (R_extract rfl rfl) rfl rfl rfl ?_
  refine EL_val (R_extract rfl rfl) rfl rfl rfl ?_
  refine EL_val (R_extract rfl rfl) rfl rfl rfl ?_
  refine EL_step rfl ?_
  refine EO_alloc K.zr46 rfl ?_
  intro w2 hn2
  refine EL_val (R_assign rfl) rfl rfl rfl ?_
  refine EL_val (R_assign rfl) rfl rfl rfl ?_
  refine EL_step rfl ?_
  refine EO_storeWhole hn2.bk rfl rfl K.sz46 rfl rfl ?_
  intro w3 hu3
  refine EL_val (R_assign rfl) rfl rfl rfl ?_
  refine EL_nil ?_
  refine E_seq ?_
  refine E_seqR ?_
  refine EL_val (R_move rfl) rfl rfl rfl ?_
  first | refine EL_val (R_neq_t rfl rfl (by omega)) rfl rfl rfl ?_ | refine EL_val (R_neq_f rfl rfl (by omega)) rfl rfl rfl ?_
  refine EL_nil ?_
  refine E_cond_t rfl ?_
  refine E_seqR ?_
  refine EL_val (R_move rfl) rfl rfl rfl ?_
  refine EL_val (R_assign rfl) rfl rfl rfl ?_
  refine EL_val (R_assign rfl) rfl rfl rfl ?_
  refine EL_nil ?_
  refine E_ret ?_
  refine thenQ_r ?_
  refine ret2 (.inr rfl) rfl rfl rfl ?_
  exact ⟨rfl, (hm1.trans hn2.mods).trans' hu3.mods fun k hk e => by have := hm1.size; omega⟩
theorem look_nil {w : World} : Ret Try.prog 27 [.pointer none] w fun v w' => v = .tuple #[.slice none 0 0, .slice none 0 0, .agg #[.int .i64 0, .int .i64 0], .int .i64 1] ∧ Mods No w w' := by
  refine Ret.enter Try.func27 rfl Try.ntmps27 rfl ?_
  simp only [argEnv, Nat.reduceAdd]
  refine E_seqR ?_
  refine EL_val (R_assign rfl) rfl rfl rfl ?_
  refine EL_val (R_assign rfl) rfl rfl rfl ?_
  refine EL_step rfl ?_
  refine EO_alloc K.zr46 rfl ?_
  intro w1 hn1
  refine EL_val (R_assign rfl) rfl rfl rfl ?_
  refine EL_nil ?_
  refine E_seq ?_
  refine E_seqR ?_
  refine EL_val (R_move rfl) rfl rfl rfl ?_
  refine EL_val (R_eqlPtrNil rfl Try.underlying29) rfl rfl rfl ?_
  refine EL_val (R_move rfl) rfl rfl rfl ?_
  refine EL_not rfl rfl rfl ?_
  refine EL_not rfl rfl rfl ?_
  refine EL_not rfl rfl rfl ?_
  first | refine EL_val (R_pick_t rfl rfl) rfl rfl rfl ?_ | refine EL_val (R_pick_f rfl rfl) rfl rfl rfl ?_
  refine EL_nil ?_
  refine E_cond_t rfl ?_
  refine E_seqD (fun w' => [(3, fun w'' => w'' = w')]) 5 K.mix rfl ?_
  intro w2d hm2d hh2d
  refine EA_still 0 [3, 4] rfl (R_loadAgg rfl K.ag46 (whole_cells (hm2d.bk' hn1.bk)) (K.sz46)) rfl (by kernel_rfl) (by kernel_rfl) rfl rfl rfl ?_
  refine EA_pure 1 rfl (fun _ => R_assign rfl) (by kernel_rfl) rfl rfl rfl ?_
  refine EA_pure 2 rfl (fun _ => R_assign rfl) (by kernel_rfl) rfl rfl rfl ?_
  refine EA_one 3 rfl (by kernel_rfl) rfl ⟨fun _ => rfl, trivial⟩ ?_
  refine EO_storeWhole (hm2d.bk' hn1.bk) rfl rfl K.sz46 rfl rfl ?_
  intro w2 hu2
  refine EA_pure 4 rfl (fun _ => R_assign rfl) (by kernel_rfl) rfl rfl rfl ?_
  refine EA_done (by kernel_rfl) (Holds.done (by kernel_rfl)) ?_
  refine E_ret ?_
  refine thenQ_r ?_
  refine ret_ttct (.inr rfl) rfl rfl rfl rfl rfl K.ag46 (by exact K.sz46) (whole_cells hu2.bk) ?_
  exact ⟨rfl, (hn1.mods.trans hm2d).trans' hu2.mods fun k hk e => by omega⟩
theorem looks_nil {w : World} : Ret Try.prog 14 [.pointer none] w fun v w' => v = .tuple #[.slice none 0 0, .int .i64 1] ∧ Mods No w w' := by
  refine Ret.enter Try.func14 rfl Try.ntmps14 rfl ?_
  simp only [argEnv, Nat.reduceAdd]
  refine E_seqR ?_
  refine EL_val (R_assign rfl) rfl rfl rfl ?_
  refine EL_val (R_assign rfl) rfl rfl rfl ?_
  refine EL_nil ?_
  refine E_seqR ?_
  refine EL_val (R_move rfl) rfl rfl rfl ?_
  refine EL_step rfl ?_
  refine EO_call K.bd27 rfl rfl (look_nil) ?_
  rintro _ w1 ⟨rfl, hm1⟩
  refine EL_val (R_move rfl) rfl rfl rfl ?_
  refine EL_val (R_extract rfl rfl) rfl rfl rfl ?_
  refine EL_val (R_extract rfl rfl) rfl rfl rfl ?_
  refine EL_val (R_extract rfl rfl) rfl rfl rfl ?_
  refine EL_val (R_extract rfl rfl) rfl rfl rfl ?_
  refine EL_step rfl ?_
  refine EO_alloc K.zr46 rfl ?_
  intro w2 hn2
  refine EL_val (R_assign rfl) rfl rfl rfl ?_
  refine EL_val (R_assign rfl) rfl rfl rfl ?_
  refine EL_step rfl ?_
  refine EO_storeWhole hn2.bk rfl rfl K.sz46 rfl rfl ?_
  intro w3 hu3
  refine EL_val (R_assign rfl) rfl rfl rfl ?_
  refine EL_nil ?_
  refine E_seq ?_
  refine E_seqR ?_
  refine EL_val (R_move rfl) rfl rfl rfl ?_
  first | refine EL_val (R_neq_t rfl rfl (by omega)) rfl rfl rfl ?_ | refine EL_val (R_neq_f rfl rfl (by omega)) rfl rfl rfl ?_
  refine EL_nil ?_
  refine E_cond_t rfl ?_
  refine E_seqR ?_
  refine EL_val (R_move rfl) rfl rfl rfl ?_
  refine EL_val (R_assign rfl) rfl rfl rfl ?_
  refine EL_val (R_assign rfl) rfl rfl rfl ?_
  refine EL_nil ?_
  refine E_ret ?_
  refine thenQ_r ?_
  refine ret2 (.inr rfl) rfl rfl rfl ?_
  exact ⟨rfl, (hm1.trans hn2.mods).trans' hu3.mods fun k hk e => by have := hm1.size; omega⟩
theorem look_some {w : World} {B d : Nat} {S : DS} (hD : Disk w B d S) (hf : Free S) (h64 : ¬ S.n < 64) {a0 : Nat} {s : Int} (hg : getHeadS (nowS S 1) = some ((a0 : Int), s)) :
    Ret Try.prog 14 [ptr d] w fun v w' => (∃ gb cb xb, v = .tuple #[.slice (some ⟨gb, 0, none⟩) S.n cb, .int .i64 0] ∧ w'.ownsRow w.heap.size 23 1 (.slice (some ⟨gb, 0, none⟩) S.n cb) S.n xb ∧ BR w' w.heap.size (lookB S.n (findL (logB S) a0 s).1.flatten (blocksS S)) xb) ∧ Mods No w w' := by
  have hl := look_walk (R := fun v w' => (∃ gb cb xb vw, v = .tuple #[.slice (some ⟨gb, 0, none⟩) S.n cb, vw, .agg #[.int .i64 ((findL (logB S) a0 s).2.1 : Int), .int .i64 (findL (logB S) a0 s).2.2], .int .i64 0] ∧ w'.ownsRow w.heap.size 23 1 (.slice (some ⟨gb, 0, none⟩) S.n cb) S.n xb ∧ BR w' w.heap.size (lookB S.n (findL (logB S) a0 s).1.flatten (blocksS S)) xb) ∧ Mods No w w') hD hf.1 h64 (fun h => by rw [hg] at h; cases h)
    (fun a1 s1 T H h hT hH gb cb xb vw xw w' h1 h2 h3 h4 hm => by
      rw [hg] at h
      injection h with h
      injection h with ha hs
      obtain rfl : a0 = a1 := by omega
      subst hs; subst hT; subst hH
      exact ⟨⟨gb, cb, xb, vw, rfl, h1, h2⟩, hm⟩)
  refine Ret.enter Try.func14 rfl Try.ntmps14 rfl ?_
  simp only [argEnv, Nat.reduceAdd]
  refine E_seqR ?_
  refine EL_val (R_assign rfl) rfl rfl rfl ?_
  refine EL_val (R_assign rfl) rfl rfl rfl ?_
  refine EL_nil ?_
  refine E_seqR ?_
  refine EL_val (R_move rfl) rfl rfl rfl ?_
  refine EL_step rfl ?_
  refine EO_call K.bd27 rfl rfl (hl) ?_
  rintro _ w1 ⟨⟨gb, cb, xb, vw, rfl, h1, h2⟩, hm1⟩
  refine EL_val (R_move rfl) rfl rfl rfl ?_
  refine EL_val (R_extract rfl rfl) rfl rfl rfl ?_
  refine EL_val (R_extract rfl rfl) rfl rfl rfl ?_
  refine EL_val (R_extract rfl rfl) rfl rfl rfl ?_
  refine EL_val (R_extract rfl rfl) rfl rfl rfl ?_
  refine EL_step rfl ?_
  refine EO_alloc K.zr46 rfl ?_
  intro w2 hn2
  refine EL_val (R_assign rfl) rfl rfl rfl ?_
  refine EL_val (R_assign rfl) rfl rfl rfl ?_
  refine EL_step rfl ?_
  refine EO_storeWhole hn2.bk rfl rfl K.sz46 rfl rfl ?_
  intro w3 hu3
  refine EL_val (R_assign rfl) rfl rfl rfl ?_
  refine EL_nil ?_
  refine E_seq ?_
  refine E_seqR ?_
  refine EL_val (R_move rfl) rfl rfl rfl ?_
  first | refine EL_val (R_neq_t rfl rfl (by omega)) rfl rfl rfl ?_ | refine EL_val (R_neq_f rfl rfl (by omega)) rfl rfl rfl ?_
  refine EL_nil ?_
  refine E_cond_f rfl ?_
  refine E_skip ?_
  refine thenQ_n ?_
  refine E_seqR ?_
  refine EL_val (R_move rfl) rfl rfl rfl ?_
  refine EL_val (R_assign rfl) rfl rfl rfl ?_
  refine EL_val (R_assign rfl) rfl rfl rfl ?_
  refine EL_nil ?_
  refine E_ret ?_
  refine ret2 (.inr rfl) rfl rfl rfl ?_
  have hne : ∀ {g : Nat} {C : Array Value} {t : TypeId}, Bk w2 g C t → t ≠ 46 → ¬ (g = w1.heap.size) := fun hb ht e => by subst e; exact ht (hb.inj hn2.bk).2
  exact ⟨⟨gb, cb, xb, rfl, own_upd (hn2.mods.own h1 fun _ _ h => h) hu3 hn2.bk (by decide), (h2.no hn2.mods).mods hu3.mods fun g C hb => hne hb (by decide)⟩, (hm1.trans hn2.mods).trans' hu3.mods fun k hk e => by have := hm1.size; omega⟩
/-! ### Open -/
theorem openj_none {w : World} {B d : Nat} {S : DS} (hD : Disk w B d S) (hf : Free S) (h64 : ¬ S.n < 64) (hg : getHeadS (nowS S 1) = none) :
    Ret Try.prog 10 [ptr d] w fun v w' => v = .tuple #[.pointer none, .int .i64 2] ∧ Mods No w w' := by
  have hl := look_walk (R := fun v w' => v = .tuple #[.slice none 0 0, .slice none 0 0, .agg #[.int .i64 0, .int .i64 0], .int .i64 2] ∧ Mods No w w') hD hf.1 h64 (fun _ w' hm => ⟨rfl, hm⟩) (fun a0 s T H h => by rw [hg] at h; cases h)
  refine Ret.enter Try.func10 rfl Try.ntmps10 rfl ?_
  simp only [argEnv, Nat.reduceAdd]
  refine E_seqR ?_
  refine EL_val (R_assign rfl) rfl rfl rfl ?_
  refine EL_val (R_assign rfl) rfl rfl rfl ?_
  refine EL_nil ?_
  refine E_seqR ?_
  refine EL_val (R_move rfl) rfl rfl rfl ?_
  refine EL_step rfl ?_
  refine EO_call K.bd27 rfl rfl (hl) ?_
  rintro _ w1 ⟨rfl, hm1⟩
  refine EL_val (R_move rfl) rfl rfl rfl ?_
  refine EL_val (R_extract rfl rfl) rfl rfl rfl ?_
  refine EL_val (R_extract rfl rfl) rfl rfl rfl ?_
  refine EL_val (R_extract rfl rfl) rfl rfl rfl ?_
  refine EL_val (R_extract rfl rfl) rfl rfl rfl ?_
  refine EL_step rfl ?_
  refine EO_alloc K.zr46 rfl ?_
  intro w2 hn2
  refine EL_val (R_assign rfl) rfl rfl rfl ?_
  refine EL_val (R_assign rfl) rfl rfl rfl ?_
  refine EL_step rfl ?_
  refine EO_storeWhole hn2.bk rfl rfl K.sz46 rfl rfl ?_
  intro w3 hu3
  refine EL_val (R_assign rfl) rfl rfl rfl ?_
  refine EL_nil ?_
  refine E_seq ?_
  refine E_seqR ?_
  refine EL_val (R_move rfl) rfl rfl rfl ?_
  first | refine EL_val (R_neq_t rfl rfl (by omega)) rfl rfl rfl ?_ | refine EL_val (R_neq_f rfl rfl (by omega)) rfl rfl rfl ?_
  refine EL_nil ?_
  refine E_cond_t rfl ?_
  refine E_seqR ?_
  refine EL_val (R_move rfl) rfl rfl rfl ?_
  refine EL_val (R_assign rfl) rfl rfl rfl ?_
  refine EL_val (R_assign rfl) rfl rfl rfl ?_
  refine EL_nil ?_
  refine E_ret ?_
  refine thenQ_r ?_
  refine ret2 (.inr rfl) rfl rfl rfl ?_
  exact ⟨rfl, (hm1.trans hn2.mods).trans' hu3.mods fun k hk e => by have := hm1.size; omega⟩
theorem openj_less {w : World} {B d : Nat} {S : DS} (hD : Disk w B d S) (h64 : S.n < 64) :
    Ret Try.prog 10 [ptr d] w fun v w' => v = .tuple #[.pointer none, .int .i64 1] ∧ Mods No w w' := by
  refine Ret.enter Try.func10 rfl Try.ntmps10 rfl ?_
  simp only [argEnv, Nat.reduceAdd]
  refine E_seqR ?_
  refine EL_val (R_assign rfl) rfl rfl rfl ?_
  refine EL_val (R_assign rfl) rfl rfl rfl ?_
  refine EL_nil ?_
  refine E_seqR ?_
  refine EL_val (R_move rfl) rfl rfl rfl ?_
  refine EL_step rfl ?_
  refine EO_call K.bd27 rfl rfl (look_small hD h64) ?_
  rintro _ w1 ⟨rfl, hm1⟩
  refine EL_val (R_move rfl) rfl rfl rfl ?_
  refine EL_val (R_extract rfl rfl) rfl rfl rfl ?_
  refine EL_val (R_extract rfl rfl) rfl rfl rfl ?_
  refine EL_val (R_extract rfl rfl) rfl rfl rfl ?_
  refine EL_val (R_extract rfl rfl) rfl rfl rfl ?_
  refine EL_step rfl ?_
  refine EO_alloc K.zr46 rfl ?_
  intro w2 hn2
  refine EL_val (R_assign rfl) rfl rfl rfl ?_
  refine EL_val (R_assign rfl) rfl rfl rfl ?_
  refine EL_step rfl ?_
  refine EO_storeWhole hn2.bk rfl rfl K.sz46 rfl rfl ?_
  intro w3 hu3
  refine EL_val (R_assign rfl) rfl rfl rfl ?_
  refine EL_nil ?_
  refine E_seq ?_
  refine E_seqR ?_
  refine EL_val (R_move rfl) rfl rfl rfl ?_
  first | refine EL_val (R_neq_t rfl rfl (by omega)) rfl rfl rfl ?_ | refine EL_val (R_neq_f rfl rfl (by omega)) rfl rfl rfl ?_
  refine EL_nil ?_
  refine E_cond_t rfl ?_
  refine E_seqR ?_
  refine EL_val (R_move rfl) rfl rfl rfl ?_
  refine EL_val (R_assign rfl) rfl rfl rfl ?_
  refine EL_val (R_assign rfl) rfl rfl rfl ?_
  refine EL_nil ?_
  refine E_ret ?_
  refine thenQ_r ?_
  refine ret2 (.inr rfl) rfl rfl rfl ?_
  exact ⟨rfl, (hm1.trans hn2.mods).trans' hu3.mods fun k hk e => by have := hm1.size; omega⟩
theorem openj_nil {w : World} : Ret Try.prog 10 [.pointer none] w fun v w' => v = .tuple #[.pointer none, .int .i64 1] ∧ Mods No w w' := by
  refine Ret.enter Try.func10 rfl Try.ntmps10 rfl ?_
  simp only [argEnv, Nat.reduceAdd]
  refine E_seqR ?_
  refine EL_val (R_assign rfl) rfl rfl rfl ?_
  refine EL_val (R_assign rfl) rfl rfl rfl ?_
  refine EL_nil ?_
  refine E_seqR ?_
  refine EL_val (R_move rfl) rfl rfl rfl ?_
  refine EL_step rfl ?_
  refine EO_call K.bd27 rfl rfl (look_nil) ?_
  rintro _ w1 ⟨rfl, hm1⟩
  refine EL_val (R_move rfl) rfl rfl rfl ?_
  refine EL_val (R_extract rfl rfl) rfl rfl rfl ?_
  refine EL_val (R_extract rfl rfl) rfl rfl rfl ?_
  refine EL_val (R_extract rfl rfl) rfl rfl rfl ?_
  refine EL_val (R_extract rfl rfl) rfl rfl rfl ?_
  refine EL_step rfl ?_
  refine EO_alloc K.zr46 rfl ?_
  intro w2 hn2
  refine EL_val (R_assign rfl) rfl rfl rfl ?_
  refine EL_val (R_assign rfl) rfl rfl rfl ?_
  refine EL_step rfl ?_
  refine EO_storeWhole hn2.bk rfl rfl K.sz46 rfl rfl ?_
  intro w3 hu3
  refine EL_val (R_assign rfl) rfl rfl rfl ?_
  refine EL_nil ?_
  refine E_seq ?_
  refine E_seqR ?_
  refine EL_val (R_move rfl) rfl rfl rfl ?_
  first | refine EL_val (R_neq_t rfl rfl (by omega)) rfl rfl rfl ?_ | refine EL_val (R_neq_f rfl rfl (by omega)) rfl rfl rfl ?_
  refine EL_nil ?_
  refine E_cond_t rfl ?_
  refine E_seqR ?_
  refine EL_val (R_move rfl) rfl rfl rfl ?_
  refine EL_val (R_assign rfl) rfl rfl rfl ?_
  refine EL_val (R_assign rfl) rfl rfl rfl ?_
  refine EL_nil ?_
  refine E_ret ?_
  refine thenQ_r ?_
  refine ret2 (.inr rfl) rfl rfl rfl ?_
  exact ⟨rfl, (hm1.trans hn2.mods).trans' hu3.mods fun k hk e => by have := hm1.size; omega⟩
/-- what a disk is behind an opening, and the head there -/
def openT (S : DS) (a0 : Nat) (s : Int) : DS := moveS (putF S (lookW S.n (findL (logB S) a0 s).1.flatten)) (findL (logB S) a0 s).2.1 (findL (logB S) a0 s).2.2
def openJ (S : DS) (a0 : Nat) (s : Int) : JS := ⟨openT S a0 s, (findL (logB S) a0 s).2.1, (findL (logB S) a0 s).2.2, (findL (logB S) a0 s).2.1, (findL (logB S) a0 s).2.2, 0⟩
theorem logB_64 {w : World} {B d : Nat} {S : DS} (hD : Disk w B d S) (h64 : ¬ S.n < 64) : ∀ q, ((logB S).getD (q % 40) []).length = 64 := fun q => by
  have hllen := logB_length (S := S) (by omega)
  have hq : q % 40 < (logB S).length := by omega
  have e : (logB S)[q % 40] = nowS S (19 + q % 40) := by
    have : (logB S)[q % 40] = (blocksS S)[19 + q % 40]'(by rw [blocksS_length]; omega) := by simp [logB]
    rw [this, blocksS_at S (by omega)]
  rw [List.getD_eq_getElem?_getD, List.getElem?_eq_getElem hq]
  show (logB S)[q % 40].length = 64
  rw [e]
  exact hD.now_len (by omega)
theorem lookW_good {w : World} {B d : Nat} {S : DS} (hD : Disk w B d S) (h64 : ¬ S.n < 64) {a0 : Nat} {s : Int} : GoodW S.n (lookW S.n (findL (logB S) a0 s).1.flatten) := fun p hp => by
  unfold lookW at hp
  obtain ⟨h1, h2⟩ := List.mem_filter.1 hp
  obtain ⟨t, ht, hpt⟩ := List.mem_flatten.1 h1
  have hw := (findL_write (logB_64 hD h64) t ht).2 p hpt
  have hr := home_range hw.1
  exact ⟨hr.1, by simpa using h2, hw.2⟩
theorem lookW_len {w : World} {B d : Nat} {S : DS} (hD : Disk w B d S) (h64 : ¬ S.n < 64) {a0 : Nat} {s : Int} (h1 : 1 ≤ s) (h2 : s ≤ 1073741824) : (lookW S.n (findL (logB S) a0 s).1.flatten).length ≤ 21474836480 := by
  have e1 : (lookW S.n (findL (logB S) a0 s).1.flatten).length ≤ (findL (logB S) a0 s).1.flatten.length := List.length_filter_le _ _
  have e2 := flatten_le (k := 20) (findL (logB S) a0 s).1 fun t ht => (findL_write (logB_64 hD h64) t ht).1.1
  have e3 := findL_seq (Bl := logB S) (a := a0) (s := s) h2
  omega
set_option maxHeartbeats 1000000 in
theorem openj_someD {w : World} {B d : Nat} {S : DS} (hD : Disk w B d S) (hf : Free S) (hB : B ≤ w.heap.size) (h64 : ¬ S.n < 64) (hroom : ∀ i, i < S.n → (S.opn i).length ≤ 1000) {a0 : Nat} {s : Int} (hg : getHeadS (nowS S 1) = some ((a0 : Int), s)) :
    Ret Try.prog 10 [ptr d] w fun v w' => ∃ j, v = .tuple #[ptr j, .int .i64 0] ∧ JAt w' B d j (openJ S a0 s) ∧ w.heap.size ≤ j ∧ DM B w w' := by
  obtain ⟨_, hok, _⟩ := getHeadS_length hg
  have hok' : (0 ≤ (a0 : Int) ∧ (a0 : Int) ≤ 39) ∧ 1 ≤ s ∧ s ≤ 1073741824 := by simpa [headOk] using hok
  have hT1 := findL_seq (Bl := logB S) (a := a0) (s := s) hok'.2.2
  have hT2 := findL_at (Bl := logB S) (a := a0) (s := s) (by omega)
  have hgood := lookW_good hD h64 (a0 := a0) (s := s)
  have hlen := lookW_len hD h64 (a0 := a0) hok'.2.1 hok'.2.2
  obtain ⟨W, hW⟩ : ∃ W, W = lookW S.n (findL (logB S) a0 s).1.flatten := ⟨_, rfl⟩
  obtain ⟨H1, hH1⟩ : ∃ H1, H1 = (findL (logB S) a0 s).2.1 := ⟨_, rfl⟩
  obtain ⟨H2, hH2⟩ : ∃ H2, H2 = (findL (logB S) a0 s).2.2 := ⟨_, rfl⟩
  have hl := look_walk (R := fun v w' => (∃ vb vw xw, v = .tuple #[vb, vw, .agg #[.int .i64 (H1 : Int), .int .i64 H2], .int .i64 0] ∧ w'.ownsRow w.heap.size 35 2 vw W.length xw ∧ WLo w' w.heap.size W xw) ∧ Mods No w w') hD hf.1 h64 (fun h => by rw [hg] at h; cases h)
    (fun a1 s1 T H h hT hH gb cb xb vw xw w' h1 h2 h3 h4 hm => by
      rw [hg] at h
      injection h with h
      injection h with ha hs
      obtain rfl : a0 = a1 := by omega
      subst hs; subst hT; subst hH
      subst hW; subst hH1; subst hH2
      exact ⟨⟨_, vw, xw, rfl, h3, h4⟩, hm⟩)
  unfold openJ openT
  rw [← hW, ← hH1, ← hH2]
  rw [← hW] at hgood hlen
  rw [← hH1] at hT2
  rw [← hH2] at hT1
  have hok2 : headOk (H1 : Int) H2 = true := by simp [headOk]; omega
  refine Ret.enter Try.func10 rfl Try.ntmps10 rfl ?_
  simp only [argEnv, Nat.reduceAdd]
  refine E_seqR ?_
  refine EL_val (R_assign rfl) rfl rfl rfl ?_
  refine EL_val (R_assign rfl) rfl rfl rfl ?_
  refine EL_nil ?_
  refine E_seqR ?_
  refine EL_val (R_move rfl) rfl rfl rfl ?_
  refine EL_step rfl ?_
  refine EO_call K.bd27 rfl rfl (hl) ?_
  rintro _ w1 ⟨⟨vb, vw, xw, rfl, how, hwl⟩, hm1⟩
  (obtain ⟨Aw, cw, rfl, _, _⟩ := own_sl how; have hs1 := hm1.size)
  refine EL_val (R_move rfl) rfl rfl rfl ?_
  refine EL_val (R_extract rfl rfl) rfl rfl rfl ?_
  refine EL_val (R_extract rfl rfl) rfl rfl rfl ?_
  refine EL_val (R_extract rfl rfl) rfl rfl rfl ?_
  refine EL_val (R_extract rfl rfl) rfl rfl rfl ?_
  refine EL_step rfl ?_
  refine EO_alloc K.zr46 rfl ?_
  intro w2 hn2
  refine EL_val (R_assign rfl) rfl rfl rfl ?_
  refine EL_val (R_assign rfl) rfl rfl rfl ?_
  refine EL_step rfl ?_
  refine EO_storeWhole hn2.bk rfl rfl K.sz46 rfl rfl ?_
  intro w3 hu3
  (have hm03 : Mods No w w3 := (hm1.trans hn2.mods).trans' hu3.mods (fun k hk e => by omega); have hs3 := hm03.size; have how3 := own_upd (hn2.mods.own how fun _ _ h => h) hu3 hn2.bk (by decide); have hwl3 := (hwl.mods hn2.mods (fun _ _ _ h => h)).mods hu3.mods (fun g C hb e => (by subst e; exact absurd (hb.inj hn2.bk).2 (by decide))))
  refine EL_val (R_assign rfl) rfl rfl rfl ?_
  refine EL_nil ?_
  refine E_seq ?_
  refine E_seqR ?_
  refine EL_val (R_move rfl) rfl rfl rfl ?_
  first | refine EL_val (R_neq_t rfl rfl (by omega)) rfl rfl rfl ?_ | refine EL_val (R_neq_f rfl rfl (by omega)) rfl rfl rfl ?_
  refine EL_nil ?_
  refine E_cond_f rfl ?_
  refine E_skip ?_
  refine thenQ_n ?_
  refine E_seqR ?_
  refine EL_val (R_move rfl) rfl rfl rfl ?_
  refine EL_val (R_loadAgg rfl K.ag46 (whole_cells hu3.bk) (K.sz46)) rfl rfl rfl ?_
  refine EL_val (R_build (cells := #[ptr d, .int .i64 0, .int .i64 0, .int .i64 (H1 : Int), .int .i64 H2, .int .i64 0, .bool false]) K.zr59 K.pl59 rfl rfl) rfl rfl rfl ?_
  refine EL_step rfl ?_
  refine EO_box rfl rfl ?_
  intro w4 hn4
  (have how4 := hn4.mods.own how3 (fun _ _ h => h); have hwl4 := hwl3.mods hn4.mods (fun _ _ _ h => h); have hD4 := (hD.no hm03).no hn4.mods; have hs4 := hn4.size)
  refine EL_val (R_assign rfl) rfl rfl rfl ?_
  refine EL_nil ?_
  refine E_seq ?_
  refine E_seqR ?_
  refine EL_val (R_move rfl) rfl rfl rfl ?_
  refine EL_val (R_move rfl) rfl rfl rfl ?_
  refine EL_step rfl ?_
  refine EO_call K.bd16 rfl rfl (put_on hD4 hf (by omega) (hwl4.writes how4 (by omega)) cw hgood (fun i hi => by have := hroom i hi; omega)) ?_
  rintro _ w5 ⟨rfl, hD5, hm5⟩
  (have hj5 : JAt w5 B d w3.heap.size ⟨putF S W, 0, 0, H1, H2, 0⟩ := ⟨hm5.bk hn4.bk (by decide), hD5, putF_free hf, by omega⟩; have hs5 := hm5.size)
  refine EL_val (R_assign rfl) rfl rfl rfl ?_
  refine EL_nil ?_
  refine E_seqR ?_
  refine EL_val (R_move rfl) rfl rfl rfl ?_
  first | refine EL_val (R_eql_t rfl rfl (by omega)) rfl rfl rfl ?_ | refine EL_val (R_eql_f rfl rfl (by omega)) rfl rfl rfl ?_
  refine EL_nil ?_
  refine E_cond_t rfl ?_
  refine E_region ?_
  refine EL_val (R_move rfl) rfl rfl rfl ?_
  refine EL_step rfl ?_
  refine EO_call K.bd24 rfl rfl (move_okJ hj5 (by omega) hok2 (by show 64 ≤ S.n; omega)) ?_
  rintro _ w6 ⟨rfl, hj6, hm6⟩
  refine EL_val (R_assign rfl) rfl rfl rfl ?_
  refine EL_nil ?_
  refine thenQ_n ?_
  refine E_seq ?_
  refine E_seqR ?_
  refine EL_val (R_move rfl) rfl rfl rfl ?_
  first | refine EL_val (R_neq_t rfl rfl (by omega)) rfl rfl rfl ?_ | refine EL_val (R_neq_f rfl rfl (by omega)) rfl rfl rfl ?_
  refine EL_nil ?_
  refine E_cond_f rfl ?_
  refine E_skip ?_
  refine thenQ_n ?_
  refine E_seqR ?_
  refine EL_val (R_move rfl) rfl rfl rfl ?_
  refine EL_val (R_assign rfl) rfl rfl rfl ?_
  refine EL_val (R_assign rfl) rfl rfl rfl ?_
  refine EL_nil ?_
  refine E_ret ?_
  refine ret2 (.inr rfl) rfl rfl rfl ?_
  have h05 : DM B w w5 := ((DM.of_no hm03).trans (DM.of_no hn4.mods)).trans hm5
  exact ⟨_, rfl, hj6, by omega, Mods.trans' h05 hm6 fun i hi hf => by
    rcases hf with hf | rfl
    · exact foot_back h05 (fun _ _ h => h) hi hf
    · omega⟩
theorem openj_some {w : World} {B d : Nat} {S : DS} (hD : Disk w B d S) (hf : Free S) (hB : B ≤ w.heap.size) (h64 : ¬ S.n < 64) (hroom : ∀ i, i < S.n → (S.opn i).length ≤ 1000) {a0 : Nat} {s : Int} (hg : getHeadS (nowS S 1) = some ((a0 : Int), s)) :
    Ret Try.prog 10 [ptr d] w fun v w' => ∃ j, v = .tuple #[ptr j, .int .i64 0] ∧ JAt w' B d j (openJ S a0 s) ∧ w.heap.size ≤ j ∧ TM JT B w w' :=
  (openj_someD hD hf hB h64 hroom hg).mono fun v w' ⟨j, h1, h2, h3, h4⟩ => ⟨j, h1, h2, h3, h4.jt⟩
/-! ### Head, Read -/
theorem head_nil {w : World} : Ret Try.prog 13 [.pointer none] w fun v w' => v = .agg #[.int .i64 0, .int .i64 0] ∧ Mods No w w' := by
  refine Ret.enter Try.func13 rfl Try.ntmps13 rfl ?_
  simp only [argEnv, Nat.reduceAdd]
  refine E_seqR ?_
  refine EL_step rfl ?_
  refine EO_alloc K.zr46 rfl ?_
  intro w1 hn1
  refine EL_nil ?_
  refine E_seq ?_
  refine E_seqR ?_
  refine EL_val (R_move rfl) rfl rfl rfl ?_
  refine EL_val (R_eqlPtrNil rfl Try.underlying30) rfl rfl rfl ?_
  refine EL_nil ?_
  refine E_cond_t rfl ?_
  refine E_seqR ?_
  refine EL_val (R_build (cells := #[.int .i64 0, .int .i64 0]) K.zr46 K.pl46 rfl rfl) rfl rfl rfl ?_
  refine EL_step rfl ?_
  refine EO_storeWhole hn1.bk rfl rfl K.sz46 rfl rfl ?_
  intro w2 hu2
  refine EL_nil ?_
  refine E_ret ?_
  refine thenQ_r ?_
  refine ret_c (.inr rfl) rfl rfl K.ag46 (by exact K.sz46) (whole_cells hu2.bk) ?_
  exact ⟨rfl, hn1.mods.trans' hu2.mods fun k hk e => by omega⟩
theorem head_ok {w : World} {B d j : Nat} {J : JS} (h : JAt w B d j J) : Ret Try.prog 13 [ptr j] w fun v w' => v = .agg #[.int .i64 (J.nA : Int), .int .i64 J.nS] ∧ Mods No w w' := by
  refine Ret.enter Try.func13 rfl Try.ntmps13 rfl ?_
  simp only [argEnv, Nat.reduceAdd]
  refine E_seqR ?_
  refine EL_step rfl ?_
  refine EO_alloc K.zr46 rfl ?_
  intro w1 hn1
  refine EL_nil ?_
  refine E_seq ?_
  refine E_seqR ?_
  refine EL_val (R_move rfl) rfl rfl rfl ?_
  refine EL_val (R_eqlPtrNil rfl Try.underlying30) rfl rfl rfl ?_
  refine EL_nil ?_
  refine E_cond_f rfl ?_
  refine E_skip ?_
  refine thenQ_n ?_
  refine E_seqR ?_
  refine EL_val (R_move rfl) rfl rfl rfl ?_
  refine EL_val (R_nilCheck rfl) rfl rfl rfl ?_
  refine EL_val (R_fieldAddr rfl K.fT59_2) rfl rfl rfl ?_
  refine EL_val (R_loadAgg rfl K.ag46 ((h.no hn1.mods).next) (K.sz46)) rfl rfl rfl ?_
  refine EL_step rfl ?_
  refine EO_storeWhole hn1.bk rfl rfl K.sz46 rfl rfl ?_
  intro w2 hu2
  refine EL_nil ?_
  refine E_ret ?_
  refine ret_c (.inr rfl) rfl rfl K.ag46 (by exact K.sz46) (whole_cells hu2.bk) ?_
  exact ⟨rfl, hn1.mods.trans' hu2.mods fun k hk e => by omega⟩
theorem head_bk {w : World} {d j : Nat} {a s : Int} {x1 x2 x5 x6 : Value} (h : Bk w j #[ptr d, x1, x2, .int .i64 a, .int .i64 s, x5, x6] 59) : Ret Try.prog 13 [ptr j] w fun v w' => v = .agg #[.int .i64 a, .int .i64 s] ∧ Mods No w w' := by
  have hc : ∀ {w1 : World}, Bk w1 j #[ptr d, x1, x2, .int .i64 a, .int .i64 s, x5, x6] 59 → Cells w1 j 3 #[.int .i64 a, .int .i64 s] := fun hb q u hq => by
    match q, hq with
    | 0, hq => exact hb.cell (by rw [← hq]; rfl)
    | 1, hq => exact hb.cell (by rw [← hq]; rfl)
    | q + 2, hq => rw [Array.getElem?_eq_none (by simp)] at hq; cases hq
  refine Ret.enter Try.func13 rfl Try.ntmps13 rfl ?_
  simp only [argEnv, Nat.reduceAdd]
  refine E_seqR ?_
  refine EL_step rfl ?_
  refine EO_alloc K.zr46 rfl ?_
  intro w1 hn1
  refine EL_nil ?_
  refine E_seq ?_
  refine E_seqR ?_
  refine EL_val (R_move rfl) rfl rfl rfl ?_
  refine EL_val (R_eqlPtrNil rfl Try.underlying30) rfl rfl rfl ?_
  refine EL_nil ?_
  refine E_cond_f rfl ?_
  refine E_skip ?_
  refine thenQ_n ?_
  refine E_seqR ?_
  refine EL_val (R_move rfl) rfl rfl rfl ?_
  refine EL_val (R_nilCheck rfl) rfl rfl rfl ?_
  refine EL_val (R_fieldAddr rfl K.fT59_2) rfl rfl rfl ?_
  refine EL_val (R_loadAgg rfl K.ag46 (hc (hn1.mods.bk' h)) (K.sz46)) rfl rfl rfl ?_
  refine EL_step rfl ?_
  refine EO_storeWhole hn1.bk rfl rfl K.sz46 rfl rfl ?_
  intro w2 hu2
  refine EL_nil ?_
  refine E_ret ?_
  refine ret_c (.inr rfl) rfl rfl K.ag46 (by exact K.sz46) (whole_cells hu2.bk) ?_
  exact ⟨rfl, hn1.mods.trans' hu2.mods fun k hk e => by omega⟩
theorem read_nil {w : World} {n : Int} : Ret Try.prog 11 [.pointer none, .int .i64 n] w fun v w' => v = .tuple #[.slice none 0 0, .int .i64 1] ∧ w = w' := by
  refine Ret.enter Try.func11 rfl Try.ntmps11 rfl ?_
  simp only [argEnv, Nat.reduceAdd]
  refine E_seqR ?_
  refine EL_val (R_assign rfl) rfl rfl rfl ?_
  refine EL_val (R_assign rfl) rfl rfl rfl ?_
  refine EL_nil ?_
  refine E_seq ?_
  refine E_block ?_
  refine E_seqR ?_
  refine EL_val (R_move rfl) rfl rfl rfl ?_
  refine EL_val (R_eqlPtrNil rfl Try.underlying30) rfl rfl rfl ?_
  refine EL_val (R_assign rfl) rfl rfl rfl ?_
  refine EL_nil ?_
  refine E_cond_t rfl ?_
  refine E_seqR ?_
  refine EL_val (R_assign rfl) rfl rfl rfl ?_
  refine EL_val (R_assign rfl) rfl rfl rfl ?_
  refine EL_nil ?_
  refine E_ret ?_
  refine inB_r (thenQ_r ?_)
  refine ret2 (.inr rfl) rfl rfl rfl ?_
  exact ⟨rfl, rfl⟩
theorem read_ok {w : World} {B d j : Nat} {J : JS} (h : JAt w B d j J) {i : Nat} (hi : i < J.st.n) :
    Ret Try.prog 11 [ptr j, .int .i64 (i : Int)] w fun v w' => (∃ u, v = .tuple #[u, .int .i64 0] ∧ OB w.heap.size w' u (nowS J.st i)) ∧ JAt w' B d j J ∧ TM JT B w w' := by
  refine Ret.enter Try.func11 rfl Try.ntmps11 rfl ?_
  simp only [argEnv, Nat.reduceAdd]
  refine E_seqR ?_
  refine EL_val (R_assign rfl) rfl rfl rfl ?_
  refine EL_val (R_assign rfl) rfl rfl rfl ?_
  refine EL_nil ?_
  refine E_seq ?_
  refine E_block ?_
  refine E_seqR ?_
  refine EL_val (R_move rfl) rfl rfl rfl ?_
  refine EL_val (R_eqlPtrNil rfl Try.underlying30) rfl rfl rfl ?_
  refine EL_val (R_assign rfl) rfl rfl rfl ?_
  refine EL_nil ?_
  refine E_cond_f rfl ?_
  refine E_seqR ?_
  refine EL_val (R_move rfl) rfl rfl rfl ?_
  refine EL_val (R_nilCheck rfl) rfl rfl rfl ?_
  refine EL_val (R_fieldAddr rfl K.fT59_4) rfl rfl rfl ?_
  refine EL_val (R_load rfl K.ag4 (h.bj.cell rfl)) rfl rfl rfl ?_
  refine EL_val (R_assign rfl) rfl rfl rfl ?_
  refine EL_nil ?_
  refine E_cond_f rfl ?_
  refine E_skip ?_
  refine inB_n ?_
  refine thenQ_n ?_
  refine E_seqR ?_
  refine EL_val (R_move rfl) rfl rfl rfl ?_
  refine EL_val (R_nilCheck rfl) rfl rfl rfl ?_
  refine EL_val (R_fieldAddr rfl K.fT59_0) rfl rfl rfl ?_
  refine EL_val (R_load rfl K.ag29 (h.bj.cell rfl)) rfl rfl rfl ?_
  refine EL_val (R_move rfl) rfl rfl rfl ?_
  refine EL_step rfl ?_
  refine EO_call K.bd28 rfl rfl (get_on h.disk h.free.1 hi) ?_
  rintro _ w1 ⟨u, rfl, ho, hm1⟩
  (have h1 := h.no hm1)
  refine EL_val (R_move rfl) rfl rfl rfl ?_
  refine EL_val (R_extract rfl rfl) rfl rfl rfl ?_
  refine EL_val (R_extract rfl rfl) rfl rfl rfl ?_
  refine EL_val (R_assign rfl) rfl rfl rfl ?_
  refine EL_val (R_assign rfl) rfl rfl rfl ?_
  refine EL_nil ?_
  refine E_seqR ?_
  refine EL_val (R_move rfl) rfl rfl rfl ?_
  refine EL_val (R_move rfl) rfl rfl rfl ?_
  first | refine EL_val (R_eql_t rfl rfl (by omega)) rfl rfl rfl ?_ | refine EL_val (R_eql_f rfl rfl (by omega)) rfl rfl rfl ?_
  refine EL_val (R_nilCheck rfl) rfl rfl rfl ?_
  refine EL_val (R_fieldAddr rfl K.fT59_4) rfl rfl rfl ?_
  refine EL_step rfl ?_
  refine EO_store1 rfl rfl K.sz4 rfl h1.bj (by show 6 < 7; omega) ?_
  intro w2 hu2
  refine EL_nil ?_
  refine E_seqR ?_
  refine EL_val (R_move rfl) rfl rfl rfl ?_
  refine EL_val (R_move rfl) rfl rfl rfl ?_
  refine EL_val (R_assign rfl) rfl rfl rfl ?_
  refine EL_val (R_assign rfl) rfl rfl rfl ?_
  refine EL_nil ?_
  refine E_ret ?_
  refine ret2 (.inr rfl) rfl rfl rfl ?_
  refine ⟨⟨u, rfl, own_upd ho hu2 h1.bj (by decide)⟩, ⟨hu2.bk, h1.disk.mods hu2.mods fun i hf e => by subst e; exact foot_not h1.bj (by decide) hf, h.free, h.le⟩, (TM.of_no hm1).trans (TM.upd hu2 h1.bj h.le (by decide))⟩
end Go.Proofs.Ytobhogdndfbniaa
