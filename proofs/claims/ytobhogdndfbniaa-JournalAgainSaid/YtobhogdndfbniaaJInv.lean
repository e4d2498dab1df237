/- The journal's invariant: what it says is what a restart finds. -/
import Derived.Test.YtobhogdndfbniaaJP
set_option linter.unusedVariables false
set_option linter.unusedSimpArgs false
set_option maxRecDepth 100000
namespace Go.Proofs.Ytobhogdndfbniaa
open Go.EW Go.RowKit

/-! ### restarts and openings -/
section
variable {S : DS} {ks : List Int}
theorem restartS_n : (restartS S ks).n = S.n := rfl
theorem restartS_opn {i : Nat} (h : i < S.n) : (restartS S ks).opn i = [] := by simp only [restartS, keepAll]; rw [if_pos h]
theorem restartS_last {i : Nat} (h : i < S.n) : (restartS S ks).last i = keepL S i (keepF ks i) := by simp only [restartS, keepAll]; rw [if_pos h]
theorem restartS_closed {i : Nat} (h : i < S.n) (ho : S.opn i = []) : nowS (restartS S ks) i = S.last i := by
  rw [now_closed (restartS_opn h), restartS_last h]
  unfold keepL
  rw [ho]
  simp
theorem restartS_none {i : Nat} (h : i < S.n) : nowS (restartS S []) i = S.last i := by
  rw [now_closed (restartS_opn h), restartS_last h]
  unfold keepL keepF
  simp
end
theorem logB_get {S : DS} {x : Nat} (hn : 64 ≤ S.n) (hx : x < 40) : (logB S).getD x [] = nowS S (19 + x) := by
  have hq : x < (logB S).length := by rw [logB_length hn]; exact hx
  rw [List.getD_eq_getElem?_getD, List.getElem?_eq_getElem hq]
  have : (logB S)[x] = (blocksS S)[19 + x]'(by rw [blocksS_length]; omega) := by simp [logB]
  show (logB S)[x] = _
  rw [this, blocksS_at S (by omega)]
theorem logB_congr {S S' : DS} (hn : 64 ≤ S.n) (hn' : S'.n = S.n) (h : ∀ i, 19 ≤ i → i < 59 → nowS S' i = nowS S i) : logB S' = logB S := by
  apply List.ext_getElem
  · rw [logB_length hn, logB_length (by omega)]
  · intro x h1 h2
    rw [logB_length hn] at h2
    have e1 := logB_get (S := S') (x := x) (by omega) h2
    have e2 := logB_get (S := S) (x := x) hn h2
    rw [List.getD_eq_getElem?_getD, List.getElem?_eq_getElem (by rw [logB_length (by omega)]; exact h2)] at e1
    rw [List.getD_eq_getElem?_getD, List.getElem?_eq_getElem (by rw [logB_length hn]; exact h2)] at e2
    simp only [Option.getD_some] at e1 e2
    rw [e1, e2, h _ (by omega) (by omega)]
def homeN (i : Nat) : Prop := i ≠ 1 ∧ (i < 19 ∨ 59 ≤ i)
/-- writes that go only where transactions may write -/
def HomeW (L : List (Int × List UInt8)) : Prop := ∀ p ∈ L, homeS p.1 = true
theorem lastW_home {L : List (Int × List UInt8)} (h : HomeW L) {i : Nat} (hi : ¬ homeN i) : lastW L i = none := lastW_none fun p hp e => hi (by
  have := home_range (h p hp)
  unfold homeN
  omega)
theorem foldl_setB_at : ∀ (W : List (Int × List UInt8)) (B : List (List UInt8)) (i : Nat), i < B.length → (W.foldl setB B).getD i [] = (lastW W i).getD (B.getD i [])
  | [], B, i, _ => rfl
  | p :: r, B, i, hi => by
    have hl : (setB B p).length = B.length := by simp [setB]
    rw [List.foldl_cons, foldl_setB_at r _ i (by omega), lastW_cons]
    congr 1
    unfold setB
    rw [List.getD_eq_getElem?_getD, List.getElem?_set]
    by_cases h : p.1.toNat = i
    · rw [if_pos h, if_pos (by omega), if_pos h]
      rfl
    · rw [if_neg h, if_neg h, List.getD_eq_getElem?_getD]
section
variable {S : DS} {a0 : Nat} {s : Int}
theorem openT_n : (openT S a0 s).n = S.n := rfl
theorem openT_opn {i : Nat} (h : i < S.n) : (openT S a0 s).opn i = [] := moveS_opn (S := putF S _) h
theorem openT_now {i : Nat} (h : i < S.n) : nowS (openT S a0 s) i = if i = 1 then headB ((findL (logB S) a0 s).2.1 : Int) (findL (logB S) a0 s).2.2 else (lastW (lookW S.n (findL (logB S) a0 s).1.flatten) i).getD (nowS S i) := by
  unfold openT
  rw [moveS_now (by exact h), putF_now]
theorem lookW_home (h64 : ∀ q, ((logB S).getD (q % 40) []).length = 64) : HomeW (lookW S.n (findL (logB S) a0 s).1.flatten) := fun p hp => by
  unfold lookW at hp
  obtain ⟨h1, _⟩ := List.mem_filter.1 hp
  obtain ⟨t, ht, hpt⟩ := List.mem_flatten.1 h1
  exact ((findL_write h64 t ht).2 p hpt).1
theorem openT_log (hn : 64 ≤ S.n) (h64 : ∀ q, ((logB S).getD (q % 40) []).length = 64) : logB (openT S a0 s) = logB S := by
  refine logB_congr hn openT_n fun i h1 h2 => ?_
  rw [openT_now (by omega), if_neg (by omega), lastW_home (lookW_home h64) (by unfold homeN; omega)]
  rfl
end
theorem logB_64S {S : DS} (hn : 64 ≤ S.n) (h : ∀ i, i < S.n → (nowS S i).length = 64) : ∀ q, ((logB S).getD (q % 40) []).length = 64 := fun q => by
  rw [logB_get hn (by omega)]
  exact h _ (by omega)
/-! ### the invariant -/
structure Inv (J : JS) (V : Nat → List UInt8) : Prop where
  n1 : 64 ≤ J.st.n
  n2 : J.st.n ≤ 480
  len : ∀ i, i < J.st.n → (nowS J.st i).length = 64 ∧ (J.st.last i).length = 64
  hA : J.hA < 40
  hS : 1 ≤ J.hS
  hle : J.hS ≤ J.nS
  nS2 : J.nS ≤ 1073741824
  head : J.st.last 1 = headB (J.hA : Int) J.hS
  closed : ∀ i, i < J.st.n → ¬ homeN i → J.st.opn i = []
  few : ∀ i, i < J.st.n → (J.st.opn i).length ≤ 20
  used : J.used ≤ 39
  found : ∃ T, findL (logB J.st) J.hA J.hS = (T, J.nA, J.nS) ∧ J.used = sizeT T ∧ (∀ t ∈ T, GoodW J.st.n t) ∧ ∀ i, i < J.st.n → homeN i → nowS J.st i = V i ∧ (lastW T.flatten i).getD (J.st.last i) = V i
theorem lookW_all {n : Nat} {L : List (Int × List UInt8)} (h : GoodW n L) : lookW n L = L := by
  unfold lookW
  rw [List.filter_eq_self]
  intro p hp
  have := h p hp
  simp
  omega
theorem good_flatten {n : Nat} {T : List (List (Int × List UInt8))} (h : ∀ t ∈ T, GoodW n t) : GoodW n T.flatten := fun p hp => by
  obtain ⟨t, ht, hpt⟩ := List.mem_flatten.1 hp
  exact h t ht p hpt
section
variable {J : JS} {V : Nat → List UInt8}
theorem Inv.nA (h : Inv J V) : J.nA < 40 := by
  obtain ⟨T, hT, _⟩ := h.found
  have := findL_at (Bl := logB J.st) (s := J.hS) h.hA
  rw [hT] at this
  exact this
theorem Inv.place (h : Inv J V) : J.nA = (J.hA + J.used) % 40 := by
  obtain ⟨T, hT, hu, _⟩ := h.found
  have := findL_place (Bl := logB J.st) (s := J.hS) h.hA
  rw [hT] at this
  rw [hu]
  exact this
theorem Inv.stop (h : Inv J V) : findL (logB J.st) J.nA J.nS = ([], J.nA, J.nS) := by
  obtain ⟨T, hT, _⟩ := h.found
  have := findL_stop (Bl := logB J.st) (a := J.hA) (s := J.hS)
  rw [hT] at this
  exact this
/-- a disk that is as what lasts is opened -/
theorem Inv.open (h : Inv J V) {S0 : DS} (hn0 : S0.n = J.st.n) (hnow : ∀ i, i < J.st.n → nowS S0 i = J.st.last i) : (getHeadS (nowS S0 1) = some ((J.hA : Int), J.hS)) ∧ Inv (openJ S0 J.hA J.hS) V ∧ (openJ S0 J.hA J.hS).nS = J.nS ∧ (openJ S0 J.hA J.hS).st.n = J.st.n := by
  obtain ⟨T, hT, hu, hg, hV⟩ := h.found
  have hn1 := h.n1
  have hok : headOk (J.hA : Int) J.hS = true := by have := h.hA; have := h.hS; have := h.hle; have := h.nS2; simp [headOk]; omega
  have hlog : logB S0 = logB J.st := logB_congr hn1 hn0 fun i h1 h2 => by
    rw [hnow i (by omega), now_closed (h.closed i (by omega) (by unfold homeN; omega))]
  have h64 := logB_64S (S := S0) (by omega) fun i hi => by rw [hnow i (by omega)]; exact (h.len i (by omega)).2
  have hW : lookW J.st.n T.flatten = T.flatten := lookW_all (good_flatten hg)
  have hnA := h.nA
  have hokn : headOk (J.nA : Int) J.nS = true := by have := h.hS; have := h.hle; have := h.nS2; simp [headOk]; omega
  have hopen : ∀ i, i < J.st.n → nowS (openT S0 J.hA J.hS) i = if i = 1 then headB (J.nA : Int) J.nS else (lastW T.flatten i).getD (J.st.last i) := fun i hi => by
    rw [openT_now (by omega), hlog, hT, hn0]
    show (if i = 1 then _ else (lastW (lookW J.st.n T.flatten) i).getD _) = _
    rw [hW, hnow i hi]
  have hopenL : logB (openT S0 J.hA J.hS) = logB J.st := (openT_log (S := S0) (by omega) h64).trans hlog
  have e1 : (findL (logB S0) J.hA J.hS).2.1 = J.nA := by rw [hlog, hT]
  have e2 : (findL (logB S0) J.hA J.hS).2.2 = J.nS := by rw [hlog, hT]
  have hopn : ∀ i, i < J.st.n → (openT S0 J.hA J.hS).opn i = [] := fun i hi => openT_opn (S := S0) (by omega)
  have hn' : (openT S0 J.hA J.hS).n = J.st.n := hn0
  refine ⟨by rw [hnow 1 (by omega), h.head]; exact getHead_put hok, ?_, e2, hn0⟩
  unfold openJ
  rw [e1, e2]
  obtain ⟨S', hS'⟩ : ∃ S', S' = openT S0 J.hA J.hS := ⟨_, rfl⟩
  rw [← hS'] at hopen hopenL hopn hn' ⊢
  have hlast : ∀ i, i < J.st.n → S'.last i = nowS S' i := fun i hi => (now_closed (hopn i hi)).symm
  have hlen : ∀ i, i < J.st.n → (nowS S' i).length = 64 := fun i hi => by
    rw [hopen i hi]
    split
    · exact headB_length _ _
    · cases hx : lastW T.flatten i with
      | none => exact (h.len i hi).2
      | some x =>
        have : x ∈ putsTo T.flatten i := List.mem_of_getLast? hx
        unfold putsTo at this
        obtain ⟨p, hp, rfl⟩ := List.mem_map.1 this
        exact (good_flatten hg p (List.mem_filter.1 hp).1).2.2
  exact { n1 := by show 64 ≤ S'.n; omega
          n2 := by show S'.n ≤ 480; have := h.n2; omega
          len := fun i hi => by
            have hi' : i < J.st.n := by rw [← hn']; exact hi
            exact ⟨hlen i hi', by show (S'.last i).length = 64; rw [hlast i hi']; exact hlen i hi'⟩
          hA := hnA
          hS := by have := h.hS; have := h.hle; show 1 ≤ J.nS; omega
          hle := Int.le_refl _
          nS2 := h.nS2
          head := by show S'.last 1 = _; rw [hlast 1 (by omega), hopen 1 (by omega), if_pos rfl]
          closed := fun i hi _ => hopn i (by rw [← hn']; exact hi)
          few := fun i hi => by show (S'.opn i).length ≤ 20; rw [hopn i (by rw [← hn']; exact hi)]; simp
          used := Nat.zero_le _
          found := ⟨[], by show findL (logB S') J.nA J.nS = _; rw [hopenL]; exact h.stop, rfl, (fun t ht => by cases ht), fun i hi hh => by
            have hi' : i < J.st.n := by rw [← hn']; exact hi
            have hnow1 : nowS S' i = V i := by
              rw [hopen i hi', if_neg hh.1]
              exact (hV i hi' hh).2
            refine ⟨hnow1, ?_⟩
            show S'.last i = V i
            rw [hlast i hi']
            exact hnow1⟩ }
/-- behind a restart of which nothing lasts -/
theorem Inv.restart (h : Inv J V) : (getHeadS (nowS (restartS J.st []) 1) = some ((J.hA : Int), J.hS)) ∧ Inv (openJ (restartS J.st []) J.hA J.hS) V ∧ (openJ (restartS J.st []) J.hA J.hS).nS = J.nS ∧ (openJ (restartS J.st []) J.hA J.hS).st.n = J.st.n :=
  h.open rfl fun i hi => restartS_none hi
/-- the head has moved -/
theorem Inv.moved (h : Inv J V) : Inv ⟨moveS J.st J.nA J.nS, J.nA, J.nS, J.nA, J.nS, 0⟩ V := by
  obtain ⟨T, hT, hu, hg, hV⟩ := h.found
  have hn1 := h.n1
  have hnow : ∀ i, i < J.st.n → nowS (moveS J.st J.nA J.nS) i = if i = 1 then headB (J.nA : Int) J.nS else nowS J.st i := fun i hi => moveS_now hi
  have hlast : ∀ i, i < J.st.n → (moveS J.st J.nA J.nS).last i = if i = 1 then headB (J.nA : Int) J.nS else nowS J.st i := fun i hi => moveS_last hi
  have hlog : logB (moveS J.st J.nA J.nS) = logB J.st := logB_congr hn1 rfl fun i h1 h2 => by rw [hnow i (by omega), if_neg (by omega)]
  have hopn : ∀ i, i < J.st.n → (moveS J.st J.nA J.nS).opn i = [] := fun i hi => moveS_opn (S := J.st) hi
  have hn' : (moveS J.st J.nA J.nS).n = J.st.n := rfl
  obtain ⟨S', hS'⟩ : ∃ S', S' = moveS J.st J.nA J.nS := ⟨_, rfl⟩
  rw [← hS'] at hnow hlast hlog hopn hn' ⊢
  have hlen : ∀ i, i < J.st.n → (nowS S' i).length = 64 := fun i hi => by
    rw [hnow i hi]
    split
    · exact headB_length _ _
    · exact (h.len i hi).1
  exact { n1 := by show 64 ≤ S'.n; omega
          n2 := by show S'.n ≤ 480; have := h.n2; omega
          len := fun i hi => by
            have hi' : i < J.st.n := by rw [← hn']; exact hi
            exact ⟨hlen i hi', by show (S'.last i).length = 64; rw [hlast i hi', ← hnow i hi']; exact hlen i hi'⟩
          hA := h.nA
          hS := by have := h.hS; have := h.hle; show 1 ≤ J.nS; omega
          hle := Int.le_refl _
          nS2 := h.nS2
          head := by show S'.last 1 = _; rw [hlast 1 (by omega), if_pos rfl]
          closed := fun i hi _ => hopn i (by rw [← hn']; exact hi)
          few := fun i hi => by show (S'.opn i).length ≤ 20; rw [hopn i (by rw [← hn']; exact hi)]; simp
          used := Nat.zero_le _
          found := ⟨[], by show findL (logB S') J.nA J.nS = _; rw [hlog]; exact h.stop, rfl, (fun t ht => by cases ht), fun i hi hh => by
            have hi' : i < J.st.n := by rw [← hn']; exact hi
            show nowS S' i = V i ∧ S'.last i = V i
            rw [hnow i hi', hlast i hi', if_neg hh.1]
            exact ⟨(hV i hi' hh).1, (hV i hi' hh).1⟩⟩ }
theorem Inv.room (h : Inv J V) (m : Nat) (hm : m ≤ 20) : Inv (roomJ J m) V ∧ (roomJ J m).used + m + 3 ≤ 40 ∧ (roomJ J m).nS = J.nS ∧ (roomJ J m).nA = J.nA ∧ (roomJ J m).st.n = J.st.n := by
  unfold roomJ
  split
  · exact ⟨h.moved, by show 0 + m + 3 ≤ 40; omega, rfl, rfl, rfl⟩
  · exact ⟨h, by omega, rfl, rfl, rfl⟩
def updV (V : Nat → List UInt8) (L : List (Int × List UInt8)) (i : Nat) : List UInt8 := (lastW L i).getD (V i)
/-- a transaction has been written -/
theorem Inv.write (h : Inv J V) {L : List (Int × List UInt8)} (hroom : J.used + L.length + 3 ≤ 40) (hg : GoodW J.st.n L) (hs : soundS J.nS (tosL L) = true) (hnS : J.nS < 1073741824) : Inv (writeJ J L (beginB J.nS (tosL L)) (endB J.nS (L.length : Int))) (updV V L) := by
  obtain ⟨T, hT, hu, hgT, hV⟩ := h.found
  have hn1 := h.n1
  have hf := soundS_facts hs
  rw [tosL_length] at hf
  have hnA := h.nA
  have hpl := h.place
  have hHL : HomeW L := fun p hp => sound_home hs _ (List.mem_map.2 ⟨p, hp, rfl⟩)
  obtain ⟨S4, hS4⟩ : ∃ S4, S4 = logS J.st J.nA L (beginB J.nS (tosL L)) (endB J.nS (L.length : Int)) := ⟨_, rfl⟩
  have hn4 : S4.n = J.st.n := by rw [hS4]; rfl
  have hopn4 : ∀ i, i < J.st.n → S4.opn i = [] := fun i hi => by rw [hS4]; exact logS_opn hi
  have hlast4 : ∀ i, i < J.st.n → S4.last i = nowS S4 i := fun i hi => (now_closed (hopn4 i hi)).symm
  have hlogq : ∀ q, q < 40 → nowS S4 (19 + (J.nA + q) % 40) = txAt L (beginB J.nS (tosL L)) (endB J.nS (L.length : Int)) q (nowS J.st (19 + (J.nA + q) % 40)) := fun q hq => by rw [hS4]; exact logS_log hn1 (by omega) hq
  have helse : ∀ i, i < J.st.n → (i < 19 ∨ 59 ≤ i) → nowS S4 i = nowS J.st i := fun i hi hh => by rw [hS4]; exact logS_else hi hh
  have hnow5 : ∀ i, nowS (putF S4 L) i = (lastW L i).getD (nowS S4 i) := fun i => putF_now _ _ _
  have hlog : logB (putF S4 L) = logB S4 := logB_congr (by omega) rfl fun i h1 h2 => by
    rw [hnow5, lastW_home hHL (by unfold homeN; omega)]
    rfl
  have hfind : findL (logB S4) J.hA J.hS = (T ++ [L], (J.nA + (L.length + 2)) % 40, J.nS + 1) := by
    have hpre := findL_prefix (Bl := logB J.st) (Bl' := logB S4) (a := J.hA) (s := J.hS) h.hA (fun q hq => by
      rw [hT] at hq
      have hq' : q < J.used := by rw [hu]; exact hq
      rw [logB_get (by omega) (by omega), logB_get hn1 (by omega)]
      have e : (J.hA + q) % 40 = (J.nA + (40 + q - J.used)) % 40 := by omega
      rw [e, hlogq (40 + q - J.used) (by omega)]
      unfold txAt
      rw [if_neg (by omega), if_neg (by omega), if_neg (by omega), if_neg (by omega)])
    rw [hT] at hpre
    have htx := findL_tx (Bl := logB S4) (nA := J.nA) (nS := J.nS) (L := L) hs hnS (fun q hq => ⟨_, by
      rw [logB_get (by omega) (by omega)]
      exact hlogq q (by omega)⟩)
    rw [hpre, htx]
    simp [Nat.add_assoc]
  have hlen4 : ∀ i, i < J.st.n → (nowS S4 i).length = 64 := fun i hi => by
    by_cases hh : i < 19 ∨ 59 ≤ i
    · rw [helse i hi hh]; exact (h.len i hi).1
    · have e : i = 19 + (J.nA + (i - 19 + 40 - J.nA) % 40) % 40 := by omega
      rw [e, hlogq _ (by omega)]
      unfold txAt
      split
      · exact beginB_length _ _ (by rw [tosL_length]; omega)
      · split
        · rename_i h0 h1
          rw [List.getD_eq_getElem?_getD, List.getElem?_eq_getElem (by omega)]
          exact (hg _ (List.getElem_mem _)).2.2
        · split
          · exact endB_length _ _
          · split
            · simp [zerosB]
            · exact (h.len _ (by omega)).1
  have hmem : ∀ i x, lastW L i = some x → x.length = 64 := fun i x hx => by
    have : x ∈ putsTo L i := List.mem_of_getLast? hx
    unfold putsTo at this
    obtain ⟨p, hp, rfl⟩ := List.mem_map.1 this
    exact (hg p (List.mem_filter.1 hp).1).2.2
  unfold writeJ
  rw [← hS4]
  refine ⟨by show 64 ≤ S4.n; omega, by show S4.n ≤ 480; have := h.n2; omega, fun i hi => ?_, h.hA, h.hS, by have := h.hle; show J.hS ≤ J.nS + 1; omega, by show J.nS + 1 ≤ 1073741824; omega, ?_, fun i hi hh => ?_, fun i hi => ?_, by show J.used + L.length + 2 ≤ 39; omega, T ++ [L], ?_, ?_, fun t ht => ?_, fun i hi hh => ?_⟩
  · have hi' : i < J.st.n := by rw [← hn4]; exact hi
    refine ⟨?_, by show (S4.last i).length = 64; rw [hlast4 i hi']; exact hlen4 i hi'⟩
    show (nowS (putF S4 L) i).length = 64
    rw [hnow5]
    cases hx : lastW L i with
    | none => exact hlen4 i hi'
    | some x => exact hmem i x hx
  · show S4.last 1 = _
    rw [hlast4 1 (by omega), helse 1 (by omega) (by omega), now_closed (h.closed 1 (by omega) (by unfold homeN; omega))]
    exact h.head
  · have hi' : i < J.st.n := by rw [← hn4]; exact hi
    show S4.opn i ++ putsTo L i = []
    rw [hopn4 i hi', List.nil_append]
    have := lastW_home hHL hh
    unfold lastW at this
    exact List.getLast?_eq_none_iff.1 this
  · have hi' : i < J.st.n := by rw [← hn4]; exact hi
    show (S4.opn i ++ putsTo L i).length ≤ 20
    rw [hopn4 i hi', List.nil_append]
    have := putsTo_le L i
    omega
  · show findL (logB (putF S4 L)) J.hA J.hS = _
    rw [hlog]
    exact hfind
  · show J.used + L.length + 2 = _
    rw [sizeT_append, ← hu, sizeT_cons]
    simp [sizeT]
    omega
  · show GoodW S4.n t
    rw [hn4]
    rcases List.mem_append.1 ht with ht | ht
    · exact hgT t ht
    · rw [List.mem_singleton.1 ht]; exact hg
  · have hi' : i < J.st.n := by rw [← hn4]; exact hi
    obtain ⟨v1, v2⟩ := hV i hi' hh
    have h4 : nowS S4 i = V i := by rw [helse i hi' hh.2]; exact v1
    refine ⟨?_, ?_⟩
    · show nowS (putF S4 L) i = _
      rw [hnow5, h4]
      rfl
    · show (lastW (T ++ [L]).flatten i).getD (S4.last i) = _
      rw [hlast4 i hi', h4, List.flatten_append, lastW_append]
      simp only [List.flatten_cons, List.flatten_nil, List.append_nil]
      unfold updV
      congr 1
      cases hx : lastW T.flatten i with
      | none => rfl
      | some x =>
        rw [hx] at v2
        exact v2
theorem writeJ_n {J : JS} {L : List (Int × List UInt8)} {a b : List UInt8} : (writeJ J L a b).st.n = J.st.n := rfl
theorem writeJ_nS {J : JS} {L : List (Int × List UInt8)} {a b : List UInt8} : (writeJ J L a b).nS = J.nS + 1 := rfl
theorem Inv.commit (h : Inv J V) {L : List (Int × List UInt8)} (hL : L.length ≤ 20) (hg : GoodW J.st.n L) (hs : soundS J.nS (tosL L) = true) (hnS : J.nS < 1073741824) : Inv (commitJ J L) (updV V L) ∧ (commitJ J L).nS = J.nS + 1 ∧ (commitJ J L).st.n = J.st.n := by
  obtain ⟨h1, h2, h3, h4, h5⟩ := h.room L.length hL
  have := h1.write (L := L) (by omega) (by rw [h5]; exact hg) (by rw [h3]; exact hs) (by rw [h3]; exact hnS)
  rw [h3] at this
  unfold commitJ
  exact ⟨this, by rw [writeJ_nS, h3], by rw [writeJ_n, h5]⟩
end
/-! ### a new disk with a head -/
def freshS (n : Nat) : DS := allS (putF (newS n) [((1 : Int), headB ((0 : Nat) : Int) 1)])
theorem fresh_now {n i : Nat} (h : i < n) : nowS (freshS n) i = if i = 1 then headB ((0 : Nat) : Int) 1 else zerosB 64 := by
  unfold freshS
  rw [allS_now (by exact h), putF_now, lastW_one]
  by_cases h1 : i = 1
  · subst h1; rfl
  · rw [if_neg (by omega), if_neg h1]; rfl
theorem fresh_opn {n i : Nat} (h : i < n) : (freshS n).opn i = [] := allS_opn (S := putF (newS n) _) h
theorem fresh_inv {n : Nat} (h1 : 64 ≤ n) (h2 : n ≤ 480) : Inv ⟨freshS n, 0, 1, 0, 1, 0⟩ (fun _ => zerosB 64) := by
  have hnow : ∀ i, i < n → nowS (freshS n) i = if i = 1 then headB ((0 : Nat) : Int) 1 else zerosB 64 := fun i hi => fresh_now hi
  have hopn : ∀ i, i < n → (freshS n).opn i = [] := fun i hi => fresh_opn hi
  have hn' : (freshS n).n = n := rfl
  obtain ⟨S', hS'⟩ : ∃ S', S' = freshS n := ⟨_, rfl⟩
  rw [← hS'] at hnow hopn hn' ⊢
  have hlast : ∀ i, i < n → S'.last i = nowS S' i := fun i hi => (now_closed (hopn i hi)).symm
  have hlen : ∀ i, i < n → (nowS S' i).length = 64 := fun i hi => by
    rw [hnow i hi]
    split
    · exact headB_length _ _
    · simp [zerosB]
  have hfind : findL (logB S') 0 1 = ([], 0, 1) := by
    refine findL_none ?_
    unfold txS
    rw [logB_get (by omega) (by omega), hnow _ (by omega), if_neg (by omega), begins_zero]
  exact { n1 := by show 64 ≤ S'.n; omega
          n2 := by show S'.n ≤ 480; omega
          len := fun i hi => by
            have hi' : i < n := by rw [← hn']; exact hi
            exact ⟨hlen i hi', by show (S'.last i).length = 64; rw [hlast i hi']; exact hlen i hi'⟩
          hA := by show 0 < 40; omega
          hS := Int.le_refl _
          hle := Int.le_refl _
          nS2 := by show (1 : Int) ≤ 1073741824; omega
          head := by show S'.last 1 = _; rw [hlast 1 (by omega), hnow 1 (by omega), if_pos rfl]
          closed := fun i hi _ => hopn i (by rw [← hn']; exact hi)
          few := fun i hi => by show (S'.opn i).length ≤ 20; rw [hopn i (by rw [← hn']; exact hi)]; simp
          used := Nat.zero_le _
          found := ⟨[], hfind, rfl, (fun t ht => by cases ht), fun i hi hh => by
            have hi' : i < n := by rw [← hn']; exact hi
            show nowS S' i = zerosB 64 ∧ S'.last i = zerosB 64
            rw [hlast i hi', hnow i hi', if_neg hh.1]
            exact ⟨rfl, rfl⟩⟩ }
/-- a new journal -/
def newJ (n : Nat) : JS := openJ (freshS n) 0 1
theorem new_inv {n : Nat} (h1 : 64 ≤ n) (h2 : n ≤ 480) : getHeadS (nowS (freshS n) 1) = some (((0 : Nat) : Int), 1) ∧ Inv (newJ n) (fun _ => zerosB 64) ∧ (newJ n).nS = 1 ∧ (newJ n).st.n = n :=
  (fresh_inv h1 h2).open (S0 := freshS n) rfl fun i hi => (now_closed (fresh_opn (n := n) hi)).symm ▸ rfl
end Go.Proofs.Ytobhogdndfbniaa
