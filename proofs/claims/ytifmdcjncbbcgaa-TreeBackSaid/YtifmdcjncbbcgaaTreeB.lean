/- Lists of numbers searched, cloned, cut (package slices), and parts of them (packages tree, drydockref11). -/
import Derived.Test.YtifmdcjncbbcgaaTreeA
set_option linter.unusedVariables false
set_option linter.unusedSimpArgs false
set_option maxRecDepth 100000
namespace Go.Proofs.Ytifmdcjncbbcgaa
open Go.EW Go.RowKit

def nzI (k : Int) : Bool := decide (k ≠ 0)
theorem nz_ok {w : World} {n : Int} : Ret Try.prog 37 [.int .i64 n] w fun v w' => v = .bool (nzI n) ∧ w = w' := by
  refine Ret.enter Try.func37 rfl Try.ntmps37 rfl ?_
  simp only [argEnv, Nat.reduceAdd]
  refine E_seqR ?_
  refine EL_val (R_assign rfl) rfl rfl rfl ?_
  refine EL_nil ?_
  refine E_seqR ?_
  refine EL_val (R_move rfl) rfl rfl rfl ?_
  refine EL_val (R_neq rfl rfl) rfl rfl rfl ?_
  refine EL_val (R_assign rfl) rfl rfl rfl ?_
  refine EL_nil ?_
  refine E_ret ?_
  refine ret1 (.inr rfl) rfl rfl ?_
  exact ⟨rfl, rfl⟩
theorem nz2_ok {w : World} {n : Int} : Ret Try.prog 46 [.int .i64 n] w fun v w' => v = .bool (nzI n) ∧ w = w' := by
  refine Ret.enter Try.func46 rfl Try.ntmps46 rfl ?_
  simp only [argEnv, Nat.reduceAdd]
  refine E_seqR ?_
  refine EL_val (R_assign rfl) rfl rfl rfl ?_
  refine EL_nil ?_
  refine E_seqR ?_
  refine EL_val (R_move rfl) rfl rfl rfl ?_
  refine EL_val (R_neq rfl rfl) rfl rfl rfl ?_
  refine EL_val (R_assign rfl) rfl rfl rfl ?_
  refine EL_nil ?_
  refine E_ret ?_
  refine ret1 (.inr rfl) rfl rfl ?_
  exact ⟨rfl, rfl⟩
/-- the first place where p holds, or -1 -/
def AtFirst {T : Type} (p : T → Bool) (ks : List T) (z : Int) : Prop :=
  (∃ (i : Nat) (h : i < ks.length), z = (i : Int) ∧ p ks[i] = true ∧ ∀ (j : Nat) (hj : j < i), p (ks[j]'(by omega)) = false) ∨ (z = -1 ∧ ∀ k ∈ ks, p k = false)
theorem AtFirst.any {T : Type} {p : T → Bool} {ks : List T} {z : Int} (h : AtFirst p ks z) : decide (0 ≤ z) = ks.any p := by
  rcases h with ⟨i, hi, rfl, hp, _⟩ | ⟨rfl, h⟩
  · have : ks.any p = true := List.any_eq_true.2 ⟨ks[i], List.getElem_mem hi, hp⟩
    rw [this]; simp
  · have : ks.any p = false := by simpa [List.any_eq_false] using h
    rw [this]; rfl
theorem indexfunc_ok {w : World} {A : Option Addr} {ks : List Int} {c f : Nat} (hk : IS w A ks) (hl : ks.length ≤ 9223372036854775807) (hb : Bodied Try.prog f = true) (hf : ∀ k, Ret Try.prog f [.int .i64 k] w fun v w' => v = .bool (nzI k) ∧ w = w') :
    Ret Try.prog 48 [.slice A ks.length c, .func (.func f) #[] #[]] w fun v w' => (∃ z, v = .int .i64 z ∧ AtFirst nzI ks z) ∧ w = w' := by
  refine Ret.enter Try.func48 rfl Try.ntmps48 rfl ?_
  simp only [argEnv, Nat.reduceAdd]
  refine E_seqR ?_
  refine EL_val (R_assign rfl) rfl rfl rfl ?_
  refine EL_nil ?_
  refine E_seq ?_
  refine E_seqR ?_
  refine EL_val (R_move rfl) rfl rfl rfl ?_
  refine EL_val (R_lenSlice rfl Try.underlying22) rfl rfl rfl ?_
  refine EL_val (R_move rfl) rfl rfl rfl ?_
  refine EL_nil ?_
  refine E_block ?_
  refine E_loop (fun m' e' w' => ∃ i, i ≤ ks.length ∧ m' = ks.length - i ∧ e' = [(0, .slice (A) ks.length c), (1, .func (.func f) #[] #[]), (7, .int .i64 (ks.length : Int)), (8, .int .i64 ((i : Nat) : Int))] ∧ w' = w ∧ ∀ (j : Nat) (h : j < ks.length), j < i → nzI ks[j] = false) ks.length [(0, .slice (A) ks.length c), (1, .func (.func f) #[] #[]), (7, .int .i64 (ks.length : Int)), (8, .int .i64 ((0 : Nat) : Int))] ⟨rfl, rfl, rfl, rfl, trivial⟩ ⟨0, by omega, by omega, rfl, rfl, fun j _ h => absurd h (by omega)⟩ ?_
  rintro m' e w2 ⟨i, hi, rfl, rfl, rfl, hall⟩
  by_cases hlt : i < ks.length
  · obtain ⟨g, o, rfl, hcell⟩ := hk.cell hlt
    cases hp : nzI ks[i] with
    | true =>
      have hfi := hf ks[i]
      rw [hp] at hfi

      refine E_seqR ?_
      first | refine EL_val (R_lss_t rfl rfl (by omega)) rfl rfl rfl ?_ | refine EL_val (R_lss_f rfl rfl (by omega)) rfl rfl rfl ?_
      refine EL_nil ?_
      refine E_seq ?_
      refine E_cond_t rfl ?_
      refine E_skip ?_
      refine thenQ_n ?_
      refine E_seq ?_
      refine E_block ?_
      refine E_seqR ?_
      refine EL_val (R_move rfl) rfl rfl rfl ?_
      refine EL_val (R_assign rfl) rfl rfl rfl ?_
      refine EL_nil ?_
      refine E_seqR ?_
      refine EL_val (R_move rfl) rfl rfl rfl ?_
      refine EL_val (R_move rfl) rfl rfl rfl ?_
      refine EL_val (R_move rfl) rfl rfl rfl ?_
      refine EL_val (R_indexAddr rfl rfl Try.underlying22 K.sz3 (m := i) rfl hlt) rfl rfl rfl ?_
      refine EL_val (R_load rfl K.ag3 ((by rw [Nat.mul_one]; exact hcell))) rfl rfl rfl ?_
      refine EL_step rfl ?_
      refine EO_callv (caps := []) hb rfl rfl rfl hfi ?_
      rintro _ _ ⟨rfl, rfl⟩
      refine EL_nil ?_
      refine E_cond_t rfl ?_
      refine E_seqR ?_
      refine EL_val (R_move rfl) rfl rfl rfl ?_
      refine EL_val (R_assign rfl) rfl rfl rfl ?_
      refine EL_nil ?_
      refine E_ret ?_
      refine inB_r (thenQ_r (thenQ_r (inB_r (thenQ_r ?_))))
      refine ret1 (.inr rfl) rfl rfl ?_
      exact ⟨⟨_, rfl, .inl ⟨i, hlt, rfl, hp, fun j hj => hall j (by omega) hj⟩⟩, rfl⟩
    | false =>
      have hfi := hf ks[i]
      rw [hp] at hfi

      refine E_seqR ?_
      first | refine EL_val (R_lss_t rfl rfl (by omega)) rfl rfl rfl ?_ | refine EL_val (R_lss_f rfl rfl (by omega)) rfl rfl rfl ?_
      refine EL_nil ?_
      refine E_seq ?_
      refine E_cond_t rfl ?_
      refine E_skip ?_
      refine thenQ_n ?_
      refine E_seq ?_
      refine E_block ?_
      refine E_seqR ?_
      refine EL_val (R_move rfl) rfl rfl rfl ?_
      refine EL_val (R_assign rfl) rfl rfl rfl ?_
      refine EL_nil ?_
      refine E_seqR ?_
      refine EL_val (R_move rfl) rfl rfl rfl ?_
      refine EL_val (R_move rfl) rfl rfl rfl ?_
      refine EL_val (R_move rfl) rfl rfl rfl ?_
      refine EL_val (R_indexAddr rfl rfl Try.underlying22 K.sz3 (m := i) rfl hlt) rfl rfl rfl ?_
      refine EL_val (R_load rfl K.ag3 ((by rw [Nat.mul_one]; exact hcell))) rfl rfl rfl ?_
      refine EL_step rfl ?_
      refine EO_callv (caps := []) hb rfl rfl rfl hfi ?_
      rintro _ _ ⟨rfl, rfl⟩
      refine EL_nil ?_
      refine E_cond_f rfl ?_
      refine E_skip ?_
      refine inB_n ?_
      refine thenQ_n ?_
      refine E_region ?_
      first | refine EL_val (R_inc rfl (by omega)) rfl rfl rfl ?_ | refine EL_val (R_add_in rfl rfl (by omega) (by omega)) rfl rfl rfl ?_
      refine EL_val (R_move rfl) rfl rfl rfl ?_
      refine EL_nil ?_
      refine thenQ_n ?_
      refine ⟨rfl, ks.length - (i + 1), [(0, .slice (some ⟨g, o, none⟩) ks.length c), (1, .func (.func f) #[] #[]), (7, .int .i64 (ks.length : Int)), (8, .int .i64 ((i + 1 : Nat) : Int))], by omega, ⟨rfl, rfl, rfl, rfl, trivial⟩, i + 1, by omega, rfl, rfl, rfl, fun j h hj => ?_⟩
      by_cases he : j = i
      · subst he; exact hp
      · exact hall j h (by omega)
  · skip
    refine E_seqR ?_
    first | refine EL_val (R_lss_t rfl rfl (by omega)) rfl rfl rfl ?_ | refine EL_val (R_lss_f rfl rfl (by omega)) rfl rfl rfl ?_
    refine EL_nil ?_
    refine E_seq ?_
    refine E_cond_f rfl ?_
    refine E_exit ?_
    refine thenQ_e ?_
    refine thenQ_e ?_
    refine inB_eq rfl ?_
    refine thenQ_n ?_
    refine E_seqR ?_
    refine EL_val (R_assign rfl) rfl rfl rfl ?_
    refine EL_nil ?_
    refine E_ret ?_
    refine ret1 (.inr rfl) rfl rfl ?_
    refine ⟨⟨_, rfl, .inr ⟨rfl, fun k hk' => ?_⟩⟩, rfl⟩
    obtain ⟨j, hj, rfl⟩ := List.getElem_of_mem hk'
    exact hall j hj (by omega)
theorem containsfunc_ok {w : World} {A : Option Addr} {ks : List Int} {c f : Nat} (hk : IS w A ks) (hl : ks.length ≤ 9223372036854775807) (hb : Bodied Try.prog f = true) (hf : ∀ k, Ret Try.prog f [.int .i64 k] w fun v w' => v = .bool (nzI k) ∧ w = w') :
    Ret Try.prog 36 [.slice A ks.length c, .func (.func f) #[] #[]] w fun v w' => v = .bool (ks.any nzI) ∧ w = w' := by
  refine Ret.enter Try.func36 rfl Try.ntmps36 rfl ?_
  simp only [argEnv, Nat.reduceAdd]
  refine E_seqR ?_
  refine EL_val (R_assign rfl) rfl rfl rfl ?_
  refine EL_nil ?_
  refine E_seqR ?_
  refine EL_val (R_move rfl) rfl rfl rfl ?_
  refine EL_val (R_move rfl) rfl rfl rfl ?_
  refine EL_step rfl ?_
  refine EO_call K.bd48 rfl rfl (indexfunc_ok hk hl hb hf) ?_
  rintro _ _ ⟨⟨z, rfl, hz⟩, rfl⟩
  refine EL_val (R_geq rfl rfl) rfl rfl rfl ?_
  refine EL_val (R_assign rfl) rfl rfl rfl ?_
  refine EL_nil ?_
  refine E_ret ?_
  refine ret1 (.inr rfl) rfl rfl ?_
  exact ⟨by rw [hz.any], rfl⟩
theorem index_ok {w : World} {A : Option Addr} {ks : List Int} {c : Nat} {x : Int} (hk : IS w A ks) (hl : ks.length ≤ 9223372036854775807) :
    Ret Try.prog 39 [.slice A ks.length c, .int .i64 x] w fun v w' => (∃ z, v = .int .i64 z ∧ AtFirst (fun k => decide (x = k)) ks z) ∧ w = w' := by
  refine Ret.enter Try.func39 rfl Try.ntmps39 rfl ?_
  simp only [argEnv, Nat.reduceAdd]
  refine E_seqR ?_
  refine EL_val (R_assign rfl) rfl rfl rfl ?_
  refine EL_nil ?_
  refine E_seq ?_
  refine E_seqR ?_
  refine EL_val (R_move rfl) rfl rfl rfl ?_
  refine EL_val (R_lenSlice rfl Try.underlying22) rfl rfl rfl ?_
  refine EL_val (R_move rfl) rfl rfl rfl ?_
  refine EL_nil ?_
  refine E_block ?_
  refine E_loop (fun m' e' w' => ∃ i, i ≤ ks.length ∧ m' = ks.length - i ∧ e' = [(0, .slice (A) ks.length c), (1, .int .i64 x), (7, .int .i64 (ks.length : Int)), (8, .int .i64 ((i : Nat) : Int))] ∧ w' = w ∧ ∀ (j : Nat) (h : j < ks.length), j < i → ¬ x = ks[j]) ks.length [(0, .slice (A) ks.length c), (1, .int .i64 x), (7, .int .i64 (ks.length : Int)), (8, .int .i64 ((0 : Nat) : Int))] ⟨rfl, rfl, rfl, rfl, trivial⟩ ⟨0, by omega, by omega, rfl, rfl, fun j _ h => absurd h (by omega)⟩ ?_
  rintro m' e w2 ⟨i, hi, rfl, rfl, rfl, hall⟩
  by_cases hlt : i < ks.length
  · obtain ⟨g, o, rfl, hcell⟩ := hk.cell hlt
    by_cases hp : x = ks[i]
    · skip
      refine E_seqR ?_
      first | refine EL_val (R_lss_t rfl rfl (by omega)) rfl rfl rfl ?_ | refine EL_val (R_lss_f rfl rfl (by omega)) rfl rfl rfl ?_
      refine EL_nil ?_
      refine E_seq ?_
      refine E_cond_t rfl ?_
      refine E_skip ?_
      refine thenQ_n ?_
      refine E_seq ?_
      refine E_block ?_
      refine E_seqR ?_
      refine EL_val (R_move rfl) rfl rfl rfl ?_
      refine EL_val (R_assign rfl) rfl rfl rfl ?_
      refine EL_nil ?_
      refine E_seqR ?_
      refine EL_val (R_move rfl) rfl rfl rfl ?_
      refine EL_val (R_move rfl) rfl rfl rfl ?_
      refine EL_val (R_move rfl) rfl rfl rfl ?_
      refine EL_val (R_indexAddr rfl rfl Try.underlying22 K.sz3 (m := i) rfl hlt) rfl rfl rfl ?_
      refine EL_val (R_load rfl K.ag3 ((by rw [Nat.mul_one]; exact hcell))) rfl rfl rfl ?_
      first | refine EL_val (R_eql_t rfl rfl (hp)) rfl rfl rfl ?_ | refine EL_val (R_eql_f rfl rfl (hp)) rfl rfl rfl ?_
      refine EL_nil ?_
      refine E_cond_t rfl ?_
      refine E_seqR ?_
      refine EL_val (R_move rfl) rfl rfl rfl ?_
      refine EL_val (R_assign rfl) rfl rfl rfl ?_
      refine EL_nil ?_
      refine E_ret ?_
      refine inB_r (thenQ_r (thenQ_r (inB_r (thenQ_r ?_))))
      refine ret1 (.inr rfl) rfl rfl ?_
      exact ⟨⟨_, rfl, .inl ⟨i, hlt, rfl, decide_eq_true hp, fun j hj => decide_eq_false (hall j (by omega) hj)⟩⟩, rfl⟩
    · skip
      refine E_seqR ?_
      first | refine EL_val (R_lss_t rfl rfl (by omega)) rfl rfl rfl ?_ | refine EL_val (R_lss_f rfl rfl (by omega)) rfl rfl rfl ?_
      refine EL_nil ?_
      refine E_seq ?_
      refine E_cond_t rfl ?_
      refine E_skip ?_
      refine thenQ_n ?_
      refine E_seq ?_
      refine E_block ?_
      refine E_seqR ?_
      refine EL_val (R_move rfl) rfl rfl rfl ?_
      refine EL_val (R_assign rfl) rfl rfl rfl ?_
      refine EL_nil ?_
      refine E_seqR ?_
      refine EL_val (R_move rfl) rfl rfl rfl ?_
      refine EL_val (R_move rfl) rfl rfl rfl ?_
      refine EL_val (R_move rfl) rfl rfl rfl ?_
      refine EL_val (R_indexAddr rfl rfl Try.underlying22 K.sz3 (m := i) rfl hlt) rfl rfl rfl ?_
      refine EL_val (R_load rfl K.ag3 ((by rw [Nat.mul_one]; exact hcell))) rfl rfl rfl ?_
      first | refine EL_val (R_eql_t rfl rfl (hp)) rfl rfl rfl ?_ | refine EL_val (R_eql_f rfl rfl (hp)) rfl rfl rfl ?_
      refine EL_nil ?_
      refine E_cond_f rfl ?_
      refine E_skip ?_
      refine inB_n ?_
      refine thenQ_n ?_
      refine E_region ?_
      first | refine EL_val (R_inc rfl (by omega)) rfl rfl rfl ?_ | refine EL_val (R_add_in rfl rfl (by omega) (by omega)) rfl rfl rfl ?_
      refine EL_val (R_move rfl) rfl rfl rfl ?_
      refine EL_nil ?_
      refine thenQ_n ?_
      refine ⟨rfl, ks.length - (i + 1), [(0, .slice (some ⟨g, o, none⟩) ks.length c), (1, .int .i64 x), (7, .int .i64 (ks.length : Int)), (8, .int .i64 ((i + 1 : Nat) : Int))], by omega, ⟨rfl, rfl, rfl, rfl, trivial⟩, i + 1, by omega, rfl, rfl, rfl, fun j h hj => ?_⟩
      by_cases he : j = i
      · subst he; exact hp
      · exact hall j h (by omega)
  · skip
    refine E_seqR ?_
    first | refine EL_val (R_lss_t rfl rfl (by omega)) rfl rfl rfl ?_ | refine EL_val (R_lss_f rfl rfl (by omega)) rfl rfl rfl ?_
    refine EL_nil ?_
    refine E_seq ?_
    refine E_cond_f rfl ?_
    refine E_exit ?_
    refine thenQ_e ?_
    refine thenQ_e ?_
    refine inB_eq rfl ?_
    refine thenQ_n ?_
    refine E_seqR ?_
    refine EL_val (R_assign rfl) rfl rfl rfl ?_
    refine EL_nil ?_
    refine E_ret ?_
    refine ret1 (.inr rfl) rfl rfl ?_
    refine ⟨⟨_, rfl, .inr ⟨rfl, fun k hk' => ?_⟩⟩, rfl⟩
    obtain ⟨j, hj, rfl⟩ := List.getElem_of_mem hk'
    exact decide_eq_false (hall j hj (by omega))
theorem contains_ok {w : World} {A : Option Addr} {ks : List Int} {c : Nat} {x : Int} (hk : IS w A ks) (hl : ks.length ≤ 9223372036854775807) :
    Ret Try.prog 24 [.slice A ks.length c, .int .i64 x] w fun v w' => v = .bool (decide (x ∈ ks)) ∧ w = w' := by
  refine Ret.enter Try.func24 rfl Try.ntmps24 rfl ?_
  simp only [argEnv, Nat.reduceAdd]
  refine E_seqR ?_
  refine EL_val (R_assign rfl) rfl rfl rfl ?_
  refine EL_nil ?_
  refine E_seqR ?_
  refine EL_val (R_move rfl) rfl rfl rfl ?_
  refine EL_val (R_move rfl) rfl rfl rfl ?_
  refine EL_step rfl ?_
  refine EO_call K.bd39 rfl rfl (index_ok hk hl) ?_
  rintro _ _ ⟨⟨z, rfl, hz⟩, rfl⟩
  refine EL_val (R_geq rfl rfl) rfl rfl rfl ?_
  refine EL_val (R_assign rfl) rfl rfl rfl ?_
  refine EL_nil ?_
  refine E_ret ?_
  refine ret1 (.inr rfl) rfl rfl ?_
  refine ⟨?_, rfl⟩
  rw [hz.any]
  congr 1
  rw [Bool.eq_iff_iff, List.any_eq_true]
  simp
/-- numbers in a row of their own -/
def OI (base : Nat) (w : World) (v : Value) (ks : List Int) : Prop := w.ownsRow base 3 1 v ks.length (ival ks)
theorem OI.is {base : Nat} {w : World} {A : Option Addr} {ks : List Int} {m c : Nat} (h : OI base w (.slice A m c) ks) : IS w A ks := by
  obtain ⟨A', c', hv, _, _⟩ := own_sl h
  injection hv with h1 h2 h3
  subst h1; subst h2
  exact Src.own h
theorem OI.sl {base : Nat} {w : World} {v : Value} {ks : List Int} (h : OI base w v ks) : ∃ A c, v = .slice A ks.length c ∧ ks.length ≤ c ∧ IS w A ks := by
  obtain ⟨A', c', hv, hc, _⟩ := own_sl h
  subst hv
  exact ⟨A', c', rfl, hc, OI.is h⟩
theorem OI.mods {base : Nat} {w w' : World} {v : Value} {ks : List Int} {S : Nat → Prop} (h : OI base w v ks) (hm : Mods S w w') (hn : ∀ k, v.ownBlock = some k → ¬ S k) : OI base w' v ks := hm.own h hn
theorem OI.no {base : Nat} {w w' : World} {v : Value} {ks : List Int} (h : OI base w v ks) (hm : Mods No w w') : OI base w' v ks := hm.own h fun _ _ h => h
theorem OI.nil {base : Nat} {w : World} : OI base w (.slice none 0 0) [] := World.ownsRow_nil _ _ _ _
theorem IS.nil {w : World} : IS w none [] := ⟨rfl, fun h => absurd h (by simp)⟩
theorem ival_app (a b : List Int) : ival (a ++ b) = ival a ++ ival b := by simp [ival]
/-- a list of the call's own appended to, by numbers read from elsewhere -/
theorem OI.appd {base : Nat} {w' : World} {v' : Value} {xs ys : List Int} (h : w'.ownsRow base 3 1 v' (xs.length + ys.length) (ival xs ++ ival ys)) : OI base w' v' (xs ++ ys) := by
  unfold OI
  rw [ival_app, List.length_append]
  exact h
/-- its own block is newer than all that was there -/
theorem own_newer {w0 w w' : World} {t : TypeId} {size : Nat} {v : Value} {m : Nat} {xs : List Value} (ho : w.ownsRow w0.heap.size t size v m xs) (h : Mods No w0 w) (hm : Mods (fun i => some i = v.ownBlock) w w') : Mods No w0 w' :=
  h.trans' hm fun i hi e => by
    obtain ⟨hb, _⟩ := own_blk ho e.symm
    omega
theorem clone_ok {w : World} {A : Option Addr} {ks : List Int} {c : Nat} (hk : IS w A ks) (hl : ks.length ≤ 1048576) :
    Ret Try.prog 31 [.slice A ks.length c] w fun v w' => OI w.heap.size w' v ks ∧ Mods No w w' := by
  by_cases hA : A = none
  · subst hA
    have h0 : ks = [] := by
      rcases Nat.eq_zero_or_pos ks.length with h | h
      · exact List.eq_nil_of_length_eq_zero h
      · obtain ⟨g, i, hA, _⟩ := hk.2 h; cases hA
    subst h0
    refine Ret.enter Try.func31 rfl Try.ntmps31 rfl ?_
    simp only [argEnv, Nat.reduceAdd]
    refine E_seqR ?_
    refine EL_val (R_assign rfl) rfl rfl rfl ?_
    refine EL_nil ?_
    refine E_seq ?_
    refine E_seqR ?_
    refine EL_val (R_move rfl) rfl rfl rfl ?_
    refine EL_val (R_eqlSliceNil rfl Try.underlying22) rfl rfl rfl ?_
    refine EL_nil ?_
    refine E_cond_t rfl ?_
    refine E_seqR ?_
    refine EL_val (R_assign rfl) rfl rfl rfl ?_
    refine EL_nil ?_
    refine E_ret ?_
    refine thenQ_r ?_
    refine ret1 (.inr rfl) rfl rfl ?_
    exact ⟨OI.nil, Mods.refl _ _⟩
  · obtain ⟨a, rfl⟩ : ∃ a, A = some a := by cases A with | none => exact absurd rfl hA | some a => exact ⟨a, rfl⟩
    refine Ret.enter Try.func31 rfl Try.ntmps31 rfl ?_
    simp only [argEnv, Nat.reduceAdd]
    refine E_seqR ?_
    refine EL_val (R_assign rfl) rfl rfl rfl ?_
    refine EL_nil ?_
    refine E_seq ?_
    refine E_seqR ?_
    refine EL_val (R_move rfl) rfl rfl rfl ?_
    refine EL_val (R_eqlSliceNil rfl Try.underlying22) rfl rfl rfl ?_
    refine EL_nil ?_
    refine E_cond_f rfl ?_
    refine E_skip ?_
    refine thenQ_n ?_
    refine E_seqR ?_
    refine EL_step rfl ?_
    refine EO_buildSlice0 Try.underlying22 K.sz3 rfl ?_
    intro w1 hn1
    refine EL_val (R_move rfl) rfl rfl rfl ?_
    refine EL_step rfl ?_
    refine EO_append rfl rfl Try.underlying22 K.sz3 K.zr3 K.by3 rfl (by decide) (hn1.own0 (m := 0) rfl (Nat.le_refl _) (by simp only [maxLen]; omega)) (hk.no hn1.mods) ival_one (by simp only [maxLen]; omega) (by omega) (by have := hn1.size; omega) rfl ?_
    intro v2 w2 ho2 hm2 hat2
    refine EL_val (R_assign rfl) rfl rfl rfl ?_
    refine EL_nil ?_
    refine E_ret ?_
    refine ret1 (.inr rfl) rfl rfl ?_
    refine ⟨by have := OI.appd (xs := []) (by simpa [ival] using ho2); simpa using this, ?_⟩
    exact hn1.mods.trans' hm2 fun i hi e => by
      have : i = w.heap.size := by simpa [Value.ownBlock] using e
      omega
end Go.Proofs.Ytifmdcjncbbcgaa
