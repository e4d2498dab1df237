/- The plain law of the journal: what was committed is found again. -/
import Derived.Test.YtobhogdndfbniaaCommitB
set_option linter.unusedVariables false
set_option linter.unusedSimpArgs false
set_option maxRecDepth 100000
namespace Go.Proofs.Ytobhogdndfbniaa
open Go.EW Go.RowKit

/-! ### writes -/
theorem putsTo_append (L M : List (Int × List UInt8)) (i : Nat) : putsTo (L ++ M) i = putsTo L i ++ putsTo M i := by
  unfold putsTo
  rw [List.filter_append, List.map_append]
theorem lastW_append (L M : List (Int × List UInt8)) (i : Nat) (x : List UInt8) : (lastW (L ++ M) i).getD x = (lastW M i).getD ((lastW L i).getD x) := by
  unfold lastW
  rw [putsTo_append, List.getLast?_append]
  cases (putsTo M i).getLast? <;> rfl
theorem lastW_nil (i : Nat) : lastW [] i = none := rfl
theorem lastW_none {L : List (Int × List UInt8)} {i : Nat} (h : ∀ p ∈ L, p.1.toNat ≠ i) : lastW L i = none := by
  have : putsTo L i = [] := by
    unfold putsTo
    rw [List.map_eq_nil_iff, List.filter_eq_nil_iff]
    intro p hp
    have := h p hp
    simpa using this
  unfold lastW
  rw [this]
  rfl
theorem lastW_one (a : Int) (l : List UInt8) (i : Nat) : lastW [(a, l)] i = if a.toNat = i then some l else none := by
  unfold lastW putsTo
  by_cases h : a.toNat = i
  · rw [if_pos h]
    simp [h]
  · rw [if_neg h]
    simp [h]
theorem lastW_cons (p : Int × List UInt8) (L : List (Int × List UInt8)) (i : Nat) (x : List UInt8) : (lastW (p :: L) i).getD x = (lastW L i).getD (if p.1.toNat = i then p.2 else x) := by
  have := lastW_append [p] L i x
  rw [List.singleton_append] at this
  rw [this, lastW_one]
  split <;> rfl
/-! ### where the log's blocks lie -/
theorem plA_nat (nA q : Nat) : (plA nA q).toNat = 19 + (nA + q) % 40 := by unfold plA; omega
theorem plA_inj {nA q q' : Nat} (h1 : q < 40) (h2 : q' < 40) (h : (plA nA q).toNat = 19 + (nA + q') % 40) : q = q' := by
  rw [plA_nat] at h
  omega
theorem blank_at {nA m q : Nat} (hm : m ≤ 20) (hq : q < 40) (x : List UInt8) : (lastW (blankL nA m) (19 + (nA + q) % 40)).getD x = if q = 0 ∨ q = m + 1 ∨ q = m + 2 then zerosB 64 else x := by
  show (lastW [(plA nA 0, zerosB 64), (plA nA (m + 1), zerosB 64), (plA nA (m + 2), zerosB 64)] (19 + (nA + q) % 40)).getD x = _
  simp only [lastW_cons, lastW_nil, Option.getD_none, plA_nat]
  by_cases h0 : q = 0
  · subst h0
    simp
  · by_cases h1 : q = m + 1
    · subst h1
      simp
    · by_cases h2 : q = m + 2
      · subst h2
        simp
      · rw [if_neg (by omega), if_neg (by omega), if_neg (by omega), if_neg (by omega)]
theorem ahead_at {nA q : Nat} {first : List UInt8} {L : List (Int × List UInt8)} (hq : q < 40) (x : List UInt8) : ∀ k, k ≤ 20 → (lastW (aheadK nA first L k) (19 + (nA + q) % 40)).getD x = if q = 0 then first else if q ≤ k then (L.getD (q - 1) (0, [])).2 else x
  | 0, _ => by
    show (lastW [(plA nA 0, first)] _).getD x = _
    rw [lastW_cons, lastW_nil, Option.getD_none]
    show (if (plA nA 0).toNat = _ then first else x) = _
    rw [plA_nat]
    by_cases h0 : q = 0
    · subst h0; simp
    · rw [if_neg (by omega), if_neg h0, if_neg (by omega)]
  | k + 1, hk => by
    rw [aheadK_succ, lastW_append, ahead_at hq x k (by omega), lastW_one]
    show (if (plA nA (1 + k)).toNat = _ then some _ else none).getD _ = _
    rw [plA_nat]
    by_cases h0 : q = 0
    · subst h0
      rw [if_neg (by omega)]
      simp
    · by_cases h1 : q = k + 1
      · subst h1
        rw [if_pos (by congr 2; omega), if_neg h0, if_pos (Nat.le_refl _)]
        show (L.getD k (0, [])).2 = _
        simp
      · rw [if_neg (by omega)]
        simp only [Option.getD_none]
        rw [if_neg h0, if_neg h0]
        by_cases h2 : q ≤ k
        · rw [if_pos h2, if_pos (by omega)]
        · rw [if_neg h2, if_neg (by omega)]
theorem lastW_off {nA : Nat} {M : List (Int × List UInt8)} (hM : ∀ p ∈ M, ∃ q, p.1 = plA nA q) {i : Nat} (hi : i < 19 ∨ 59 ≤ i) : lastW M i = none :=
  lastW_none fun p hp => by
    obtain ⟨q, hq⟩ := hM p hp
    rw [hq, plA_nat]
    omega
theorem blank_pl (nA m : Nat) : ∀ p ∈ blankL nA m, ∃ q, p.1 = plA nA q := fun p hp => by
  obtain ⟨q, _, rfl⟩ := List.mem_map.1 hp
  exact ⟨q, rfl⟩
theorem ahead_pl (nA : Nat) (first : List UInt8) (L : List (Int × List UInt8)) (k : Nat) : ∀ p ∈ aheadK nA first L k, ∃ q, p.1 = plA nA q := fun p hp => by
  rcases List.mem_cons.1 hp with rfl | hp
  · exact ⟨0, rfl⟩
  · obtain ⟨i, _, rfl⟩ := List.mem_map.1 hp
    exact ⟨1 + i, rfl⟩
/-- what a transaction leaves in the log -/
def txAt (L : List (Int × List UInt8)) (first last : List UInt8) (q : Nat) (x : List UInt8) : List UInt8 :=
  if q = 0 then first else if q ≤ L.length then (L.getD (q - 1) (0, [])).2 else if q = L.length + 1 then last else if q = L.length + 2 then zerosB 64 else x
section
variable {S : DS} {nA : Nat} {L : List (Int × List UInt8)} {first last : List UInt8}
theorem logS_n : (logS S nA L first last).n = S.n := rfl
theorem logS_opn {i : Nat} (h : i < S.n) : (logS S nA L first last).opn i = [] := allS_opn h
theorem logS_now {i : Nat} (h : i < S.n) : nowS (logS S nA L first last) i = (lastW [(plA nA (L.length + 1), last)] i).getD ((lastW (aheadK nA first L L.length) i).getD ((lastW (blankL nA L.length) i).getD (nowS S i))) := by
  unfold logS
  rw [allS_now (by exact h), putF_now, allS_now (by exact h), putF_now, allS_now (by exact h), putF_now]
theorem now_closed {S : DS} {i : Nat} (h : S.opn i = []) : nowS S i = S.last i := by
  unfold nowS
  rw [h]
  rfl
theorem logS_log {q : Nat} (hn : 64 ≤ S.n) (hL : L.length ≤ 20) (hq : q < 40) : nowS (logS S nA L first last) (19 + (nA + q) % 40) = txAt L first last q (nowS S (19 + (nA + q) % 40)) := by
  rw [logS_now (by omega), blank_at hL hq, ahead_at hq _ _ hL, lastW_one, plA_nat]
  by_cases h1 : q = L.length + 1
  · subst h1
    rw [if_pos rfl]
    show last = _
    unfold txAt
    rw [if_neg (by omega), if_neg (by omega), if_pos rfl]
  · rw [if_neg (by omega)]
    simp only [Option.getD_none]
    unfold txAt
    by_cases h0 : q = 0
    · rw [if_pos h0, if_pos h0]
    · rw [if_neg h0, if_neg h0]
      by_cases h2 : q ≤ L.length
      · rw [if_pos h2, if_pos h2]
      · rw [if_neg h2, if_neg h2, if_neg h1]
        by_cases h3 : q = L.length + 2
        · rw [if_pos h3, if_pos (by omega)]
        · rw [if_neg h3, if_neg (by omega)]
theorem logS_else {i : Nat} (h : i < S.n) (hi : i < 19 ∨ 59 ≤ i) : nowS (logS S nA L first last) i = nowS S i := by
  rw [logS_now h, lastW_off (nA := nA) (fun p hp => ⟨L.length + 1, by rw [List.mem_singleton.1 hp]⟩) hi, lastW_off (ahead_pl nA first L L.length) hi, lastW_off (blank_pl nA L.length) hi]
  rfl
end
/-! ### what is found -/
def sizeT (T : List (List (Int × List UInt8))) : Nat := (T.map fun t => t.length + 2).sum
theorem sizeT_append (T U : List (List (Int × List UInt8))) : sizeT (T ++ U) = sizeT T + sizeT U := by simp [sizeT]
theorem sizeT_cons (t : List (Int × List UInt8)) (U : List (List (Int × List UInt8))) : sizeT (t :: U) = t.length + 2 + sizeT U := by simp [sizeT]
theorem findL_place {Bl : List (List UInt8)} {a : Nat} {s : Int} : a < 40 → (findL Bl a s).2.1 = (a + sizeT (findL Bl a s).1) % 40 := by
  refine findL_rec (Bl := Bl) (fun a s r => a < 40 → r.2.1 = (a + sizeT r.1) % 40) (fun a s _ h => by simp [sizeT]; omega) (fun a s ks r hs _ _ ih h => ?_) _ a s rfl
  rw [ih (by omega), sizeT_cons]
  have : (wrS Bl a ks).length = ks.length := by simp [wrS]
  omega
theorem txS_congr {Bl Bl' : List (List UInt8)} {a : Nat} {s : Int} {ks : List Int} (ht : txS Bl a s = some ks) (h : ∀ q, q < ks.length + 2 → Bl'.getD ((a + q) % 40) [] = Bl.getD ((a + q) % 40) []) : txS Bl' a s = some ks ∧ wrS Bl' a ks = wrS Bl a ks := by
  have h0 := h 0 (by omega)
  rw [Nat.add_zero] at h0
  refine ⟨?_, ?_⟩
  · unfold txS at ht ⊢
    rw [h0]
    split at ht
    · rename_i s' ks' hb
      show (if s' = s then _ else none) = some ks
      split at ht
      · rename_i hs
        rw [if_pos hs]
        have hk : ks' = ks := by
          split at ht
          · split at ht
            · injection ht
            · cases ht
          · cases ht
        subst hk
        rw [h (ks'.length + 1) (by omega)]
        exact ht
      · cases ht
    · cases ht
  · unfold wrS
    apply List.map_congr_left
    intro i hi
    have hi' : i < ks.length := by simpa using hi
    rw [h (i + 1) (by omega)]
/-- where the blocks of the transactions are as they were, they are found again -/
theorem findL_prefix {Bl Bl' : List (List UInt8)} {a : Nat} {s : Int} : a < 40 → (∀ q, q < sizeT (findL Bl a s).1 → Bl'.getD ((a + q) % 40) [] = Bl.getD ((a + q) % 40) []) →
    findL Bl' a s = ((findL Bl a s).1 ++ (findL Bl' (findL Bl a s).2.1 (findL Bl a s).2.2).1, (findL Bl' (findL Bl a s).2.1 (findL Bl a s).2.2).2) := by
  refine findL_rec (Bl := Bl) (fun a s r => a < 40 → (∀ q, q < sizeT r.1 → Bl'.getD ((a + q) % 40) [] = Bl.getD ((a + q) % 40) []) → findL Bl' a s = (r.1 ++ (findL Bl' r.2.1 r.2.2).1, (findL Bl' r.2.1 r.2.2).2))
    (fun a s _ h _ => by simp) (fun a s ks r hs hk hr ih h hq => ?_) _ a s rfl
  have hl : (wrS Bl a ks).length = ks.length := by simp [wrS]
  rw [sizeT_cons, hl] at hq
  obtain ⟨h1, h2⟩ := txS_congr hk fun q hq' => hq q (by omega)
  rw [findL_some (by omega) h1, h2]
  have h3 := ih (by omega) fun q hq' => by
    have := hq (ks.length + 2 + q) (by omega)
    rw [show ((a + ks.length + 2) % 40 + q) % 40 = (a + (ks.length + 2 + q)) % 40 by omega]
    exact this
  rw [h3]
  simp
/-- a transaction that was written is found, and nothing behind it -/
theorem findL_tx {Bl : List (List UInt8)} {nA : Nat} {nS : Int} {L : List (Int × List UInt8)} (hs : soundS nS (tosL L) = true) (hnS : nS < 1073741824) (h : ∀ q, q ≤ L.length + 2 → ∃ x, Bl.getD ((nA + q) % 40) [] = txAt L (beginB nS (tosL L)) (endB nS (L.length : Int)) q x) :
    findL Bl nA nS = ([L], (nA + L.length + 2) % 40, nS + 1) := by
  have hf := soundS_facts hs
  rw [tosL_length] at hf
  have hend : endOk nS (L.length : Int) = true := by unfold endOk; rw [decide_eq_true_eq]; omega
  have ht : txS Bl nA nS = some (tosL L) := by
    obtain ⟨x0, h0⟩ := h 0 (by omega)
    obtain ⟨x1, h1⟩ := h (L.length + 1) (by omega)
    unfold txAt at h0 h1
    rw [if_pos rfl, Nat.add_zero] at h0
    rw [if_neg (by omega), if_neg (by omega), if_pos rfl] at h1
    unfold txS
    rw [h0, begins_begin hs]
    show (if nS = nS then _ else none) = _
    rw [if_pos rfl, tosL_length, h1, ends_end hend]
    show (if nS = nS ∧ (L.length : Int) = (L.length : Int) then _ else none) = _
    rw [if_pos ⟨rfl, rfl⟩]
  have hw : wrS Bl nA (tosL L) = L := by
    apply List.ext_getElem
    · simp [wrS, tosL]
    · intro i h1 h2
      obtain ⟨x, hx⟩ := h (i + 1) (by omega)
      unfold txAt at hx
      rw [if_neg (by omega), if_pos (by omega), Nat.add_sub_cancel] at hx
      have e : (wrS Bl nA (tosL L))[i] = ((tosL L).getD i 0, Bl.getD ((nA + (i + 1)) % 40) []) := by simp [wrS]
      rw [e, hx]
      have e1 : (tosL L).getD i 0 = L[i].1 := by simp [tosL, List.getD_eq_getElem?_getD, List.getElem?_eq_getElem h2]
      have e2 : (L.getD i (0, [])).2 = L[i].2 := by rw [List.getD_eq_getElem?_getD, List.getElem?_eq_getElem h2]; rfl
      rw [e1, e2]
  have hn : txS Bl ((nA + L.length + 2) % 40) (nS + 1) = none := by
    obtain ⟨x, hx⟩ := h (L.length + 2) (by omega)
    unfold txAt at hx
    rw [if_neg (by omega), if_neg (by omega), if_neg (by omega), if_pos rfl] at hx
    unfold txS
    rw [show (nA + L.length + 2) % 40 % 40 = (nA + (L.length + 2)) % 40 by omega, hx, begins_zero]
  rw [findL_some (by omega) ht, tosL_length, findL_none hn, hw]
end Go.Proofs.Ytobhogdndfbniaa
