/- The whole transactions of a log: what log.Find is made of. -/
import Derived.Test.YtobhogdndfbniaaLogD
set_option linter.unusedVariables false
set_option linter.unusedSimpArgs false
set_option maxRecDepth 100000
namespace Go.Proofs.Ytobhogdndfbniaa
open Go.EW Go.RowKit

/-- slices of bytes, in a slice -/
def BBs (w : World) (A : Option Addr) (Bl : List (List UInt8)) : Prop := Bl.length ≤ 9223372036854775806 ∧ (0 < Bl.length → ∃ g i, A = some ⟨g, i, none⟩ ∧
  ∀ (k : Nat) (hk : k < Bl.length), ∃ Ak ck, w.cell? ⟨g, i + k, none⟩ = some (.slice Ak Bl[k].length ck) ∧ Bl[k].length ≤ ck ∧ Bl[k].length ≤ 9223372036854775806 ∧ BS w Ak Bl[k])
theorem BBs.no {w w' : World} {A : Option Addr} {Bl : List (List UInt8)} (h : BBs w A Bl) (hm : Mods No w w') : BBs w' A Bl :=
  ⟨h.1, fun h0 => by
    obtain ⟨g, i, hA, hk⟩ := h.2 h0
    refine ⟨g, i, hA, fun k hkl => ?_⟩
    obtain ⟨Ak, ck, h1, h2, h3, h4⟩ := hk k hkl
    exact ⟨Ak, ck, hm.cell h1 id, h2, h3, h4.no hm⟩⟩
theorem not64_ok {w : World} {A : Option Addr} {n c : Nat} : Ret Try.prog 56 [.slice A n c] w fun v w' => v = .bool (decide (n ≠ 64)) ∧ w = w' := by
  by_cases h : n = 64
  · refine Ret.enter Try.func56 rfl Try.ntmps56 rfl ?_
    simp only [argEnv, Nat.reduceAdd]
    refine E_seqR ?_
    refine EL_val (R_assign rfl) rfl rfl rfl ?_
    refine EL_nil ?_
    refine E_seqR ?_
    refine EL_val (R_move rfl) rfl rfl rfl ?_
    refine EL_val (R_lenSlice rfl Try.underlying23) rfl rfl rfl ?_
    first | refine EL_val (R_neq_t rfl rfl (by omega)) rfl rfl rfl ?_ | refine EL_val (R_neq_f rfl rfl (by omega)) rfl rfl rfl ?_
    refine EL_val (R_assign rfl) rfl rfl rfl ?_
    refine EL_nil ?_
    refine E_ret ?_
    refine ret1 (.inr rfl) rfl rfl ?_
    exact ⟨by simp [h], rfl⟩
  · refine Ret.enter Try.func56 rfl Try.ntmps56 rfl ?_
    simp only [argEnv, Nat.reduceAdd]
    refine E_seqR ?_
    refine EL_val (R_assign rfl) rfl rfl rfl ?_
    refine EL_nil ?_
    refine E_seqR ?_
    refine EL_val (R_move rfl) rfl rfl rfl ?_
    refine EL_val (R_lenSlice rfl Try.underlying23) rfl rfl rfl ?_
    first | refine EL_val (R_neq_t rfl rfl (by omega)) rfl rfl rfl ?_ | refine EL_val (R_neq_f rfl rfl (by omega)) rfl rfl rfl ?_
    refine EL_val (R_assign rfl) rfl rfl rfl ?_
    refine EL_nil ?_
    refine E_ret ?_
    refine ret1 (.inr rfl) rfl rfl ?_
    exact ⟨by simp [h], rfl⟩
theorem indexf_ok {w : World} {A : Option Addr} {Bl : List (List UInt8)} {c : Nat} (hb : BBs w A Bl) :
    Ret Try.prog 64 [.slice A Bl.length c, .func (.func 56) #[] #[]] w fun v w' => ∃ r : Int, v = .int .i64 r ∧ (0 ≤ r ↔ ∃ b ∈ Bl, b.length ≠ 64) ∧ w = w' := by
  have hlen := hb.1
  refine Ret.enter Try.func64 rfl Try.ntmps64 rfl ?_
  simp only [argEnv, Nat.reduceAdd]
  refine E_seqR ?_
  refine EL_val (R_assign rfl) rfl rfl rfl ?_
  refine EL_nil ?_
  refine E_seq ?_
  refine E_seqR ?_
  refine EL_val (R_move rfl) rfl rfl rfl ?_
  refine EL_val (R_lenSlice rfl Try.underlying22) rfl rfl rfl ?_
  refine EL_val (R_move rfl) rfl rfl rfl ?_
  refine EL_nil ?_
  refine E_block ?_
  refine E_loop (fun m' e' w' => ∃ i AA, i ≤ Bl.length ∧ m' = Bl.length - i ∧ e' = [(0, .slice (AA) Bl.length c), (1, .func (.func 56) #[] #[]), (7, .int .i64 (Bl.length : Int)), (8, .int .i64 ((i : Nat) : Int))] ∧ BBs w AA Bl ∧ w = w' ∧ ∀ k (hk : k < Bl.length), k < i → Bl[k].length = 64) Bl.length [(0, .slice (A) Bl.length c), (1, .func (.func 56) #[] #[]), (7, .int .i64 (Bl.length : Int)), (8, .int .i64 ((0 : Nat) : Int))] ⟨rfl, rfl, rfl, rfl, trivial⟩ ⟨0, A, by omega, by omega, rfl, hb, rfl, fun k _ h => by omega⟩ ?_
  clear hb
  rintro m' e w' ⟨i, A, hi, rfl, rfl, hb, rfl, hno⟩
  by_cases hlt : i < Bl.length
  · obtain ⟨g, o, rfl, hk⟩ := hb.2 (by omega)
    obtain ⟨Ak, ck, hc, _, _, _⟩ := hk i hlt
    by_cases hx : Bl[i].length = 64
    · skip
      refine E_seqR ?_
      first | refine EL_val (R_lss_t rfl rfl (by omega)) rfl rfl rfl ?_ | refine EL_val (R_lss_f rfl rfl (by omega)) rfl rfl rfl ?_
      refine EL_nil ?_
      refine E_seq ?_
      refine E_cond_t rfl ?_
      refine E_skip ?_
      refine thenQ_n ?_
      refine E_seq ?_
      refine E_block ?_
      refine E_seqR ?_
      refine EL_val (R_move rfl) rfl rfl rfl ?_
      refine EL_val (R_assign rfl) rfl rfl rfl ?_
      refine EL_nil ?_
      refine E_seqR ?_
      refine EL_val (R_move rfl) rfl rfl rfl ?_
      refine EL_val (R_move rfl) rfl rfl rfl ?_
      refine EL_val (R_move rfl) rfl rfl rfl ?_
      refine EL_val (R_indexAddr rfl rfl Try.underlying22 K.sz23 (m := i) rfl hlt) rfl rfl rfl ?_
      refine EL_val (R_load rfl K.ag23 ((by rw [Nat.mul_one]; exact hc))) rfl rfl rfl ?_
      refine EL_step rfl ?_
      refine EO_callv K.bd56 (caps := []) rfl rfl rfl (ret_f not64_ok (by simp [hx])) ?_
      rintro _ _ ⟨rfl, rfl⟩
      refine EL_nil ?_
      refine E_cond_f rfl ?_
      refine E_skip ?_
      refine inB_n ?_
      refine thenQ_n ?_
      refine E_region ?_
      first | refine EL_val (R_inc rfl (by omega)) rfl rfl rfl ?_ | refine EL_val (R_add_in rfl rfl (by omega) (by omega)) rfl rfl rfl ?_
      refine EL_val (R_move rfl) rfl rfl rfl ?_
      refine EL_nil ?_
      refine thenQ_n ?_
      refine ⟨rfl, Bl.length - (i + 1), [(0, .slice (some ⟨g, o, none⟩) Bl.length c), (1, .func (.func 56) #[] #[]), (7, .int .i64 (Bl.length : Int)), (8, .int .i64 ((i + 1 : Nat) : Int))], by omega, ⟨rfl, rfl, rfl, rfl, trivial⟩, i + 1, _, by omega, rfl, rfl, hb, rfl, fun k hk' hki => ?_⟩
      by_cases hki' : k = i
      · subst hki'; exact hx
      · exact hno k hk' (by omega)
    · skip
      refine E_seqR ?_
      first | refine EL_val (R_lss_t rfl rfl (by omega)) rfl rfl rfl ?_ | refine EL_val (R_lss_f rfl rfl (by omega)) rfl rfl rfl ?_
      refine EL_nil ?_
      refine E_seq ?_
      refine E_cond_t rfl ?_
      refine E_skip ?_
      refine thenQ_n ?_
      refine E_seq ?_
      refine E_block ?_
      refine E_seqR ?_
      refine EL_val (R_move rfl) rfl rfl rfl ?_
      refine EL_val (R_assign rfl) rfl rfl rfl ?_
      refine EL_nil ?_
      refine E_seqR ?_
      refine EL_val (R_move rfl) rfl rfl rfl ?_
      refine EL_val (R_move rfl) rfl rfl rfl ?_
      refine EL_val (R_move rfl) rfl rfl rfl ?_
      refine EL_val (R_indexAddr rfl rfl Try.underlying22 K.sz23 (m := i) rfl hlt) rfl rfl rfl ?_
      refine EL_val (R_load rfl K.ag23 ((by rw [Nat.mul_one]; exact hc))) rfl rfl rfl ?_
      refine EL_step rfl ?_
      refine EO_callv K.bd56 (caps := []) rfl rfl rfl (ret_t not64_ok (by simp [hx])) ?_
      rintro _ _ ⟨rfl, rfl⟩
      refine EL_nil ?_
      refine E_cond_t rfl ?_
      refine E_seqR ?_
      refine EL_val (R_move rfl) rfl rfl rfl ?_
      refine EL_val (R_assign rfl) rfl rfl rfl ?_
      refine EL_nil ?_
      refine E_ret ?_
      refine inB_r (thenQ_r (thenQ_r (inB_r (thenQ_r ?_))))
      refine ret1 (.inr rfl) rfl rfl ?_
      exact ⟨_, rfl, ⟨fun _ => ⟨_, List.getElem_mem hlt, hx⟩, fun _ => by omega⟩, rfl⟩
  · skip
    refine E_seqR ?_
    first | refine EL_val (R_lss_t rfl rfl (by omega)) rfl rfl rfl ?_ | refine EL_val (R_lss_f rfl rfl (by omega)) rfl rfl rfl ?_
    refine EL_nil ?_
    refine E_seq ?_
    refine E_cond_f rfl ?_
    refine E_exit ?_
    refine thenQ_e ?_
    refine thenQ_e ?_
    refine inB_eq rfl ?_
    refine thenQ_n ?_
    refine E_seqR ?_
    refine EL_val (R_assign rfl) rfl rfl rfl ?_
    refine EL_nil ?_
    refine E_ret ?_
    refine ret1 (.inr rfl) rfl rfl ?_
    refine ⟨-1, rfl, ⟨fun h => by omega, fun ⟨b, hb', hx⟩ => ?_⟩, rfl⟩
    obtain ⟨k, hk', e⟩ := List.getElem_of_mem hb'
    exact absurd (by rw [← e]; exact hno k hk' (by omega)) hx
theorem containsf_ok {w : World} {A : Option Addr} {Bl : List (List UInt8)} {c : Nat} (hb : BBs w A Bl) :
    Ret Try.prog 55 [.slice A Bl.length c, .func (.func 56) #[] #[]] w fun v w' => v = .bool (!Bl.all fun b => b.length == 64) ∧ w = w' := by
  refine Ret.enter Try.func55 rfl Try.ntmps55 rfl ?_
  simp only [argEnv, Nat.reduceAdd]
  refine E_seqR ?_
  refine EL_val (R_assign rfl) rfl rfl rfl ?_
  refine EL_nil ?_
  refine E_seqR ?_
  refine EL_val (R_move rfl) rfl rfl rfl ?_
  refine EL_val (R_move rfl) rfl rfl rfl ?_
  refine EL_step rfl ?_
  refine EO_call K.bd64 rfl rfl (indexf_ok hb) ?_
  rintro _ _ ⟨r, rfl, hr, rfl⟩
  refine EL_val (R_geq rfl rfl) rfl rfl rfl ?_
  refine EL_val (R_assign rfl) rfl rfl rfl ?_
  refine EL_nil ?_
  refine E_ret ?_
  refine ret1 (.inr rfl) rfl rfl ?_
  refine ⟨?_, rfl⟩
  congr 1
  rw [Bool.eq_iff_iff]
  simp [hr]
/-- the closure: the block i behind the head -/
theorem at_ok {w : World} {b2 b3 : Nat} {A : Option Addr} {Bl : List (List UInt8)} {cb a i : Nat} {s : Int} (h2 : Bk w b2 #[.slice A Bl.length cb] 22) (h3 : Bk w b3 #[.int .i64 (a : Int), .int .i64 s] 46) (hb : BBs w A Bl) (h40 : Bl.length = 40) (ha : a < 40) (hi : i ≤ 1000) :
    Ret Try.prog 54 [.int .i64 (i : Int), ptr b2, ptr b3] w fun v w' => (∃ Ak ck, v = .slice Ak (Bl.getD ((a + i) % 40) []).length ck ∧ (Bl.getD ((a + i) % 40) []).length ≤ ck ∧ BS w Ak (Bl.getD ((a + i) % 40) [])) ∧ w = w' := by
  obtain ⟨g, o, rfl, hk⟩ := hb.2 (by omega)
  have hj : (a + i) % 40 < Bl.length := by omega
  obtain ⟨Ak, ck, hc, hle, _, hs⟩ := hk _ hj
  have hgd : Bl.getD ((a + i) % 40) [] = Bl[(a + i) % 40] := by rw [List.getD_eq_getElem?_getD, List.getElem?_eq_getElem hj]; rfl
  rw [hgd]
  refine Ret.enter Try.func54 rfl Try.ntmps54 rfl ?_
  simp only [argEnv, Nat.reduceAdd]
  refine E_seqR ?_
  refine EL_val (R_assign rfl) rfl rfl rfl ?_
  refine EL_nil ?_
  refine E_seqR ?_
  refine EL_val (R_load rfl K.ag22 (h2.cell rfl)) rfl rfl rfl ?_
  refine EL_val (R_fieldAddr rfl K.fT46_0) rfl rfl rfl ?_
  refine EL_val (R_load rfl K.ag3 (h3.cell rfl)) rfl rfl rfl ?_
  refine EL_val (R_move rfl) rfl rfl rfl ?_
  refine EL_val (R_addE (((a + i : Nat) : Int)) rfl rfl (by omega) (by omega) (by omega)) rfl rfl rfl ?_
  refine EL_val (R_remE (((a + i) % 40 : Nat) : Int) (by omega) (by omega) (by omega) rfl rfl) rfl rfl rfl ?_
  refine EL_val (R_indexAddr rfl rfl Try.underlying22 K.sz23 (m := (a + i) % 40) rfl hj) rfl rfl rfl ?_
  refine EL_val (R_load rfl K.ag23 ((by rw [Nat.mul_one]; exact hc))) rfl rfl rfl ?_
  refine EL_val (R_assign rfl) rfl rfl rfl ?_
  refine EL_nil ?_
  refine E_ret ?_
  refine ret1 (.inr rfl) rfl rfl ?_
  exact ⟨⟨Ak, ck, rfl, hle, hs⟩, rfl⟩
/-- a transaction that begins at block a, whole -/
def txS (Bl : List (List UInt8)) (a : Nat) (s : Int) : Option (List Int) :=
  match beginsS (Bl.getD (a % 40) []) with
  | some (s', ks) => if s' = s then (match endsS (Bl.getD ((a + (ks.length + 1)) % 40) []) with
    | some (s2, n2) => if s2 = s ∧ n2 = (ks.length : Int) then some ks else none
    | none => none) else none
  | none => none
def wrS (Bl : List (List UInt8)) (a : Nat) (ks : List Int) : List (Int × List UInt8) := (List.range ks.length).map fun i => (ks.getD i 0, Bl.getD ((a + (i + 1)) % 40) [])
def findL (Bl : List (List UInt8)) (a : Nat) (s : Int) : List (List (Int × List UInt8)) × Nat × Int :=
  if h : 1073741824 ≤ s then ([], a, s) else match txS Bl a s with
    | none => ([], a, s)
    | some ks => let r := findL Bl ((a + ks.length + 2) % 40) (s + 1); (wrS Bl a ks :: r.1, r.2)
termination_by (1073741824 - s).toNat
decreasing_by omega
/-- writes as cells, their bytes in rows of their own -/
def WLo (w : World) (B : Nat) : List (Int × List UInt8) → List Value → Prop
  | [], [] => True
  | (a, l) :: r, x :: y :: t => (x = .int .i64 a ∧ OB B w y l) ∧ WLo w B r t
  | _, _ => False
def TXs (w : World) (B : Nat) : List (List (Int × List UInt8)) → List Value → Prop
  | [], [] => True
  | t :: r, v :: vs => (∃ xs, w.ownsRow B 35 2 v t.length xs ∧ WLo w B t xs) ∧ TXs w B r vs
  | _, _ => False
theorem WLo.mods {w w' : World} {B : Nat} {S : Nat → Prop} (hm : Mods S w w') (hs : ∀ g C, Bk w g C 5 → ¬ S g) : ∀ {L : List (Int × List UInt8)} {xs : List Value}, WLo w B L xs → WLo w' B L xs
  | [], [], _ => trivial
  | (a, l) :: r, x :: y :: t, h => ⟨⟨h.1.1, hm.own h.1.2 fun k hk => by obtain ⟨_, cur, hc⟩ := own_blk h.1.2 hk; exact hs k cur hc⟩, WLo.mods hm hs h.2⟩
theorem WLo.mono {w : World} {B B' : Nat} (hB : B' ≤ B) : ∀ {L : List (Int × List UInt8)} {xs : List Value}, WLo w B L xs → WLo w B' L xs
  | [], [], _ => trivial
  | (a, l) :: r, x :: y :: t, h => ⟨⟨h.1.1, own_mono h.1.2 hB⟩, WLo.mono hB h.2⟩
theorem WLo.snoc {w : World} {B : Nat} {a : Int} {l : List UInt8} {y : Value} (ho : OB B w y l) : ∀ {L : List (Int × List UInt8)} {xs : List Value}, WLo w B L xs → WLo w B (L ++ [(a, l)]) (xs ++ [.int .i64 a, y])
  | [], [], _ => ⟨⟨rfl, ho⟩, trivial⟩
  | (a', l') :: r, x :: z :: t, h => ⟨h.1, WLo.snoc ho h.2⟩
theorem WLo.len {w : World} {B : Nat} : ∀ {L : List (Int × List UInt8)} {xs : List Value}, WLo w B L xs → xs.length = L.length * 2
  | [], [], _ => rfl
  | (a, l) :: r, x :: y :: t, h => by have := WLo.len h.2; simp only [List.length_cons]; omega
theorem TXs.mods {w w' : World} {B : Nat} {S : Nat → Prop} (hm : Mods S w w') (hs : ∀ g C, Bk w g C 5 → ¬ S g) (hs2 : ∀ g C, Bk w g C 35 → ¬ S g) : ∀ {T : List (List (Int × List UInt8))} {vs : List Value}, TXs w B T vs → TXs w' B T vs
  | [], [], _ => trivial
  | t :: r, v :: vs, h => by
    obtain ⟨⟨xs, h1, h2⟩, h3⟩ := h
    exact ⟨⟨xs, hm.own h1 fun k hk => by obtain ⟨_, cur, hc⟩ := own_blk h1 hk; exact hs2 k cur hc, h2.mods hm hs⟩, TXs.mods hm hs hs2 h3⟩
theorem TXs.snoc {w : World} {B : Nat} {t : List (Int × List UInt8)} {v : Value} (ht : ∃ xs, w.ownsRow B 35 2 v t.length xs ∧ WLo w B t xs) : ∀ {T : List (List (Int × List UInt8))} {vs : List Value}, TXs w B T vs → TXs w B (T ++ [t]) (vs ++ [v])
  | [], [], _ => ⟨ht, trivial⟩
  | t' :: r, v' :: vs, h => ⟨h.1, TXs.snoc ht h.2⟩
end Go.Proofs.Ytobhogdndfbniaa
