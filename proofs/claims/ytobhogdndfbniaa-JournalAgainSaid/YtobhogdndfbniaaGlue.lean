/- Disks and logs together: blocks got, writes handed on. -/
import Derived.Test.YtobhogdndfbniaaDiskF
import Derived.Test.YtobhogdndfbniaaRowB
import Derived.Test.YtobhogdndfbniaaFindP
set_option linter.unusedVariables false
set_option linter.unusedSimpArgs false
set_option maxRecDepth 100000
namespace Go.EW
open Go.RowKit
section
variable {P : Program} {n : Nat} {e : Env} {w : World}
theorem ret_ttct {fn : Func} {R : Value → World → Prop} {a b t u : Tmp} {T : TypeId} {g i : Nat} {cs : Array Value} {va vb v' : Value} {x : Exit} (hx : x = .normal ∨ x = .ret) (hr : fn.results = #[.tmp a, .tmp b, .cell t T, .tmp u]) (ha : lk e a = some va) (hb : lk e b = some vb) (ht : lk e t = some (.pointer (some ⟨g, i, none⟩))) (hu : lk e u = some v')
    (hag : aggT P T = some true) (hsz : sizeOfT P T = some cs.size) (hc : Cells w g i cs) (h : R (.tuple #[va, vb, .agg cs, v']) w) : bodyQ P fn R x [] e w :=
  ⟨hx, rfl, _, fun tmps htm => by
    have hl : (loadCells ⟨g, i, none⟩ cs.toList.length).run P w = .ok cs.toList.toArray w :=
      run_loadCells_list (P := P) w ⟨g, i, none⟩ cs.toList (fun j v hv => by rw [add_none]; exact hc j v (by simpa using hv))
    simp only [Array.length_toList, Array.toArray_toList] at hl
    have h0 := htm a _ ha
    have h3 := htm b _ hb
    have h1 := htm t _ ht
    have h2 := htm u _ hu
    simp [results, hr, h0, h3, h1, h2, asAddr, loadVar, run_aggT hag, run_sizeOfT hsz, hl], h⟩
theorem ret_c {fn : Func} {R : Value → World → Prop} {t : Tmp} {T : TypeId} {g i : Nat} {cs : Array Value} {x : Exit} (hx : x = .normal ∨ x = .ret) (hr : fn.results = #[.cell t T]) (ht : lk e t = some (.pointer (some ⟨g, i, none⟩)))
    (hag : aggT P T = some true) (hsz : sizeOfT P T = some cs.size) (hc : Cells w g i cs) (h : R (.agg cs) w) : bodyQ P fn R x [] e w :=
  ⟨hx, rfl, _, fun tmps htm => by
    have hl : (loadCells ⟨g, i, none⟩ cs.toList.length).run P w = .ok cs.toList.toArray w :=
      run_loadCells_list (P := P) w ⟨g, i, none⟩ cs.toList (fun j v hv => by rw [add_none]; exact hc j v (by simpa using hv))
    simp only [Array.length_toList, Array.toArray_toList] at hl
    have h1 := htm t _ ht
    simp [results, hr, h1, asAddr, loadVar, run_aggT hag, run_sizeOfT hsz, hl], h⟩
end
end Go.EW
namespace Go.Proofs.Ytobhogdndfbniaa
open Go.EW Go.RowKit

theorem foot_not {B : Nat} {w : World} {g : Nat} {C : Array Value} {t : TypeId} (h : Bk w g C t) (ht : ¬ (t = 70 ∨ t = 74 ∨ t = 71)) : ¬ foot B w g := fun ⟨_, C', t', hb', ht'⟩ => ht (by rw [(h.inj hb').2]; exact ht')
theorem zeros64_eq : zeros64 = zerosB 64 := rfl
theorem bv_list (l : List UInt8) : (bv l).toList = bval l := by simp [bv, bval]
theorem Fresh64.ob {w w' : World} {l : List UInt8} {v : Value} (h : Fresh64 w l v w') (hl : l.length = 64) : OB w.heap.size w' v l := by
  have := h.1
  rw [bv_list] at this
  unfold OB
  rw [hl]
  exact this
theorem DiskAt.now_len {w : World} {B d g : Nat} {C : Array Value} {ov : Nat → Value} {S : DS} (h : DiskAt w B d g C ov S) {i : Nat} (hi : i < S.n) : (nowS S i).length = 64 := by
  unfold nowS
  cases hl : (S.opn i).getLast? with
  | none => exact (h.last i hi).1
  | some b => exact (h.opn i hi).1 b (List.mem_of_getLast? hl)
theorem Disk.now_len {w : World} {B d : Nat} {S : DS} (h : Disk w B d S) {i : Nat} (hi : i < S.n) : (nowS S i).length = 64 := by
  obtain ⟨g, C, ov, h⟩ := h
  exact h.now_len hi
theorem Disk.nle {w : World} {B d : Nat} {S : DS} (h : Disk w B d S) : S.n ≤ 480 := by
  obtain ⟨g, C, ov, h⟩ := h
  exact h.nle
theorem get_on {w : World} {B d : Nat} {S : DS} (h : Disk w B d S) (ho : S.off = false) {i : Nat} (hi : i < S.n) :
    Ret Try.prog 28 [ptr d, .int .i64 (i : Int)] w fun v w' => ∃ u, v = .tuple #[u, .int .i64 0] ∧ OB w.heap.size w' u (nowS S i) ∧ Mods No w w' := by
  obtain ⟨g, C, ov, h⟩ := h
  refine (get_ok h (i : Int)).mono fun v w' hp => ?_
  simp only [getP, ho, Bool.false_eq_true, if_false, if_neg (show ¬ ((i : Int) < 0 ∨ (S.n : Int) ≤ i) by omega), Int.toNat_natCast] at hp
  obtain ⟨u, rfl, hf⟩ := hp
  exact ⟨u, rfl, hf.ob (h.now_len hi), hf.2⟩
theorem blocks_on {w : World} {B d : Nat} {S : DS} (h : Disk w B d S) : Ret Try.prog 20 [ptr d] w fun v w' => v = .int .i64 (S.n : Int) ∧ w = w' := by
  obtain ⟨g, C, ov, h⟩ := h
  exact blocks_ok h
/-- writes of the call's own, handed to a disk -/
theorem OB.bytesOff {w : World} {B base : Nat} {A : Option Addr} {l : List UInt8} {c : Nat} (h : OB base w (.slice A l.length c) l) : BytesOff B w A l := fun h0 => by
  obtain ⟨g, cap, cur, hv, hb, hbk, _, _, _, ht⟩ := own_form h h0
  injection hv with hA
  subst hA
  refine ⟨g, 0, rfl, ?_, foot_not hbk (by decide)⟩
  have hs := OB.src h
  obtain ⟨g', i, hA, hc⟩ := hs.2 h0
  injection hA with hA
  injection hA with h1 h2 _
  subst h1; subst h2
  exact hc
theorem WLo.at_ {w : World} {B : Nat} : ∀ {L : List (Int × List UInt8)} {xs : List Value}, WLo w B L xs → ∀ (k : Nat) (hk : k < L.length), ∃ y, xs[k * 2]? = some (.int .i64 L[k].1) ∧ xs[k * 2 + 1]? = some y ∧ OB B w y L[k].2
  | (a, l) :: r, x :: y :: t, h, 0, _ => by
    obtain ⟨⟨rfl, h1⟩, _⟩ := h
    exact ⟨y, rfl, rfl, h1⟩
  | (a, l) :: r, x :: y :: t, h, k + 1, hk => by
    obtain ⟨z, h1, h2, h3⟩ := WLo.at_ h.2 k (by simpa using hk)
    refine ⟨z, ?_, ?_, h3⟩
    · rw [show (k + 1) * 2 = k * 2 + 1 + 1 from by omega]
      simpa using h1
    · rw [show (k + 1) * 2 + 1 = k * 2 + 1 + 1 + 1 from by omega]
      simpa using h2
theorem WLo.writes {w : World} {B base b2 : Nat} {A : Option Addr} {c : Nat} {L : List (Int × List UInt8)} {xs : List Value} (h : WLo w base L xs) (ho : w.ownsRow b2 35 2 (.slice A L.length c) L.length xs) (hl : L.length ≤ 9223372036854775807) : Writes B w A L := by
  refine ⟨hl, fun h0 => ?_⟩
  obtain ⟨g, cap, cur, hv, hb, hbk, _, _, _, ht⟩ := own_form ho h0
  injection hv with hA
  subst hA
  refine ⟨g, 0, rfl, foot_not hbk (by decide), fun k hk => ?_⟩
  obtain ⟨y, h1, h2, h3⟩ := h.at_ k hk
  obtain ⟨Ay, cy, rfl, _, _⟩ := own_sl h3
  have hcur : ∀ (j : Nat) (u : Value), xs[j]? = some u → cur[0 + j]? = some u := by
    intro j u hu
    rw [← ht, List.getElem?_take] at hu
    split at hu
    · rw [Nat.zero_add]; simpa using hu
    · cases hu
  exact ⟨Ay, cy, hbk.cell (hcur _ _ h1), hbk.cell (by rw [Nat.add_assoc]; exact hcur _ _ h2), OB.bytesOff h3⟩
/-- one write, newly made -/
theorem writes_one {w : World} {B base g : Nat} {a : Int} {A : Option Addr} {l : List UInt8} {c : Nat} (hb : Bk w g #[.int .i64 a, .slice A l.length c] 35) (ho : OB base w (.slice A l.length c) l) : Writes B w (some ⟨g, 0, none⟩) [(a, l)] := by
  refine ⟨by simp, fun _ => ⟨g, 0, rfl, foot_not hb (by decide), fun k hk => ?_⟩⟩
  have hk0 : k = 0 := by simpa using hk
  subst hk0
  exact ⟨A, c, hb.cell rfl, hb.cell rfl, OB.bytesOff ho⟩
theorem BBs.sub {w : World} {g i : Nat} {L : List (List UInt8)} {k m : Nat} (h : BBs w (some ⟨g, i, none⟩) L) (hk : k + m ≤ L.length) : BBs w (some ⟨g, i + k * 1, none⟩) ((L.drop k).take m) := by
  have hl : ((L.drop k).take m).length = m := by simp; omega
  refine ⟨by rw [hl]; have := h.1; omega, fun h0 => ⟨g, i + k * 1, rfl, fun j hj => ?_⟩⟩
  rw [hl] at hj
  obtain ⟨g', i', hA, hc⟩ := h.2 (by omega)
  injection hA with hA
  injection hA with h1 h2 _
  subst h1; subst h2
  obtain ⟨Ak, ck, h1, h2, h3, h4⟩ := hc (k + j) (by omega)
  have e : ((L.drop k).take m)[j]'(by rw [hl]; exact hj) = L[k + j]'(by omega) := by simp
  rw [e]
  exact ⟨Ak, ck, by rw [Nat.mul_one, Nat.add_assoc]; exact h1, h2, h3, h4⟩
/-! ### what a look at a disk tells -/
def lookW (n : Nat) (L : List (Int × List UInt8)) : List (Int × List UInt8) := L.filter fun p => decide (p.1 < (n : Int))
def setB (B : List (List UInt8)) (p : Int × List UInt8) : List (List UInt8) := B.set p.1.toNat p.2
def lookB (n : Nat) (L : List (Int × List UInt8)) (B : List (List UInt8)) : List (List UInt8) := (lookW n L).foldl setB B
theorem lookW_snoc (n : Nat) (L : List (Int × List UInt8)) (p : Int × List UInt8) : lookW n (L ++ [p]) = lookW n L ++ (if p.1 < (n : Int) then [p] else []) := by
  unfold lookW
  rw [List.filter_append]
  congr 1
  by_cases h : p.1 < (n : Int) <;> simp [h]
theorem lookB_snoc (n : Nat) (L : List (Int × List UInt8)) (p : Int × List UInt8) (B : List (List UInt8)) : lookB n (L ++ [p]) B = if p.1 < (n : Int) then setB (lookB n L B) p else lookB n L B := by
  unfold lookB
  rw [lookW_snoc, List.foldl_append]
  split <;> rfl
theorem foldl_setB_length : ∀ (L : List (Int × List UInt8)) (B : List (List UInt8)), (L.foldl setB B).length = B.length
  | [], B => rfl
  | p :: r, B => by rw [List.foldl_cons, foldl_setB_length r]; simp [setB]
def blocksS (S : DS) : List (List UInt8) := (List.range S.n).map (nowS S)
theorem blocksS_length (S : DS) : (blocksS S).length = S.n := by simp [blocksS]
theorem blocksS_at (S : DS) {i : Nat} (h : i < S.n) : (blocksS S)[i]'(by rw [blocksS_length]; exact h) = nowS S i := by simp [blocksS]
theorem blocksS_take_succ (S : DS) {i : Nat} (h : i < S.n) : (blocksS S).take (i + 1) = (blocksS S).take i ++ [nowS S i] := by
  rw [List.take_succ_eq_append_getElem (by rw [blocksS_length]; exact h), blocksS_at S h]
/-- the log of a disk -/
def logB (S : DS) : List (List UInt8) := ((blocksS S).drop 19).take 40
theorem logB_length {S : DS} (h : 64 ≤ S.n) : (logB S).length = 40 := by simp [logB, blocksS_length]; omega
def foundS (S : DS) (p : Int × Int) : List (List (Int × List UInt8)) × Nat × Int := findL (logB S) p.1.toNat p.2
end Go.Proofs.Ytobhogdndfbniaa
