/- The document's sums, numbers and heads (packages drydockref03, 04, 08), and super.GetHead. -/
import Derived.Test.YtifmdcjncbbcgaaPage
import Derived.Lib.AppendStr
set_option linter.unusedVariables false
set_option linter.unusedSimpArgs false
set_option maxRecDepth 100000
namespace Go.EW
open Go.RowKit
section
variable {P : Program} {n : Nat} {K : Kont} {D : List Deferred} {e : Env} {w : World} {d : Tmp} {ty : TypeId} {pos : String} {af : Array Edge} {gd : Option (Nat × Bool)}
theorem EO_appendStr {x y : Operand} {base : Nat} {t u E : TypeId} {v : Value} {m0 : Nat} {xs : List Value} {l : List UInt8} (hown : w.ownsRow base E 1 v m0 xs) (hle : m0 + l.length ≤ 140737488355328) (hbase : base ≤ w.heap.size) (hx : ev e x = some v) (hy : ev e y = some (.string (str l))) (hu : P.underlying t = some (.slice E)) (hu2 : P.underlying u = some .string) (hs : sizeOfT P E = some 1) (hz : zeroOfT P E = some (.int .u8 0)) (hby : bytesOfT P E = some 1)
    (hd : Nat.blt d n = true)
    (h : ∀ v' w', w'.ownsRow base E 1 v' (m0 + l.length) (xs ++ l.map fun b => Value.int .u8 (b.toNat : Int)) → Mods (fun i => some i = v.ownBlock) w w' → K D ((d, v') :: e) w') :
    EO P n ⟨some d, .call ⟨.builtin .append, #[x, y], #[t, u]⟩, ty, pos, af, gd⟩ K D e w := by
  obtain ⟨i, hi, hi1⟩ := info_of_size hs
  have hib : i.bytes = 1 := by simpa [bytesOfT, hi] using hby
  have hzz : i.zero = some (.int .u8 0) := by simpa [zeroOfT, hi] using hz
  obtain ⟨v', w', hrun, h2, h3, _⟩ := Lib.run_append_own_string (P := P) w base t u ty E i hu hu2 hi hzz hi1 hib v m0 xs hown (str l) (by rw [str_size]; simp only [maxLen]; omega) (by rw [str_size]; exact hle) hbase
  have he : Lib.strCells (str l) = l.map fun b => Value.int .u8 (b.toNat : Int) := by simp [Lib.strCells, str]
  rw [he, str_size] at h2
  refine EO_val (w' := w') (fun ρ hρ => ?_) rfl hd (h v' w' h2 (Mods.grown h3))
  simp [execOp, resolve, hρ x _ hx, hρ y _ hy, invoke, builtin, hrun]
end
end Go.EW
namespace Go.Proofs.Ytifmdcjncbbcgaa
open Go.EW Go.RowKit

theorem tmod_fix (x : Int) : -65521 < x.tmod 65521 ∧ x.tmod 65521 < 65521 ∧ (x.tmod 65521 + 65521) % 65521 = x % 65521 := by
  have ht : x.tmod 65521 = if 0 ≤ x then x % 65521 else -((-x) % 65521) := by
    split
    · rename_i h; exact Int.tmod_eq_emod_of_nonneg h
    · rename_i h
      have h1 : (-x).tmod 65521 = (-x) % 65521 := Int.tmod_eq_emod_of_nonneg (by omega)
      have h2 : (-x).tmod 65521 = -(x.tmod 65521) := Int.neg_tmod x 65521
      omega
  rw [ht]
  split <;> omega
theorem refmore_ok {w : World} {s : Nat} (hs : s < 4294967296) {A : Option Addr} {l : List UInt8} {c : Nat} (hl : BS w A l) (hlen : l.length ≤ 9223372036854775806) :
    Ret Try.prog 61 [.int .u32 (s : Int), .slice A l.length c] w fun v w' => v = .int .u32 (moreS s l) ∧ w = w' := by
  have hu : ∀ x : Int, 0 ≤ x → x < 4294967296 → IntKind.u32.wrap x = x := fun x h1 h2 => by simp [IntKind.wrap, IntKind.bits, IntKind.signed]; omega
  refine Ret.enter Try.func61 rfl Try.ntmps61 rfl ?_
  simp only [argEnv, Nat.reduceAdd]
  refine E_seqR ?_
  refine EL_val (R_assign rfl) rfl rfl rfl ?_
  refine EL_nil ?_
  refine E_seqR ?_
  refine EL_val (R_move rfl) rfl rfl rfl ?_
  refine EL_val (R_quoE (((s : Int) / 65536)) (by omega) (by omega) rfl (hu _ (by omega) (by omega)) rfl rfl) rfl rfl rfl ?_
  refine EL_val (R_convInt ((s : Int) / 65536) (wrap_i64_in (by omega) (by omega)) rfl Try.underlying86 Try.underlying3) rfl rfl rfl ?_
  refine EL_val (R_remE ((s : Int) / 65536 % 65521) (by omega) (by omega) rfl rfl rfl) rfl rfl rfl ?_
  refine EL_val (R_move rfl) rfl rfl rfl ?_
  refine EL_val (R_remE ((s : Int) % 65536) (by omega) (by omega) rfl rfl rfl) rfl rfl rfl ?_
  refine EL_val (R_convInt ((s : Int) % 65536) (wrap_i64_in (by omega) (by omega)) rfl Try.underlying86 Try.underlying3) rfl rfl rfl ?_
  refine EL_val (R_remE ((s : Int) % 65536 % 65521) (by omega) (by omega) rfl rfl rfl) rfl rfl rfl ?_
  refine EL_val (R_assign rfl) rfl rfl rfl ?_
  refine EL_val (R_assign rfl) rfl rfl rfl ?_
  refine EL_nil ?_
  refine E_seq ?_
  refine E_seqR ?_
  refine EL_val (R_assign rfl) rfl rfl rfl ?_
  refine EL_nil ?_
  refine E_block ?_
  refine E_loop (fun m' e' w' => ∃ i, i ≤ l.length ∧ m' = l.length - i ∧ e' = [(1, .slice (A) l.length c), (5, .int .i64 (runZ (fromZ s) (l.take i)).1), (6, .int .i64 (runZ (fromZ s) (l.take i)).2), (7, .int .i64 ((i : Nat) : Int))] ∧ w = w') l.length [(1, .slice (A) l.length c), (5, .int .i64 (fromZ s).1), (6, .int .i64 (fromZ s).2), (7, .int .i64 ((0 : Nat) : Int))] ⟨rfl, rfl, rfl, rfl, trivial⟩ ⟨0, by omega, by omega, rfl, rfl⟩ ?_
  rintro m' e w' ⟨i, hi, rfl, rfl, rfl⟩
  by_cases hlt : i < l.length
  · obtain ⟨g, o, rfl, hc⟩ := hl.cell hlt
    have hz := runZ_ok (l.take i) (fromZ_ok s)
    have hnext : stepZ (runZ (fromZ s) (l.take i)) l[i] = runZ (fromZ s) (l.take (i + 1)) := by
      rw [List.take_succ_eq_append_getElem hlt]
      simp only [runZ, List.foldl_append, List.foldl_cons, List.foldl_nil]
    have hx : l[i].toNat < 256 := l[i].toNat_lt
    rcases hzz : runZ (fromZ s) (l.take i) with ⟨a, b⟩
    obtain ⟨h1, h2, h3, h4⟩ := hz
    rw [hzz] at h1 h2 h3 h4 hnext
    simp only at h1 h2 h3 h4
    obtain ⟨k1, k2, k3⟩ := tmod_fix (2 * a - b + (l[i].toNat : Int))
    refine E_seq ?_
    refine E_seqR ?_
    refine EL_val (R_move rfl) rfl rfl rfl ?_
    refine EL_val (R_move rfl) rfl rfl rfl ?_
    refine EL_val (R_lenSlice rfl Try.underlying56) rfl rfl rfl ?_
    first | refine EL_val (R_lss_t rfl rfl (by omega)) rfl rfl rfl ?_ | refine EL_val (R_lss_f rfl rfl (by omega)) rfl rfl rfl ?_
    refine EL_nil ?_
    refine E_cond_t rfl ?_
    refine E_skip ?_
    refine thenQ_n ?_
    refine E_seq ?_
    refine E_block ?_
    refine E_seqR ?_
    refine EL_val (R_move rfl) rfl rfl rfl ?_
    refine EL_val (R_mulE ((2 * a)) rfl rfl (by omega) (by omega) (by omega)) rfl rfl rfl ?_
    refine EL_val (R_move rfl) rfl rfl rfl ?_
    refine EL_val (R_subE ((2 * a - b)) rfl rfl (by omega) (by omega) (by omega)) rfl rfl rfl ?_
    refine EL_val (R_move rfl) rfl rfl rfl ?_
    refine EL_val (R_move rfl) rfl rfl rfl ?_
    refine EL_val (R_indexAddr rfl rfl Try.underlying56 K.sz5 (m := i) rfl hlt) rfl rfl rfl ?_
    refine EL_val (R_load rfl K.ag5 ((by rw [Nat.mul_one]; exact hc))) rfl rfl rfl ?_
    refine EL_val (R_convInt (l[i].toNat : Int) (wrap_i64_in (by omega) (by omega)) rfl Try.underlying5 Try.underlying3) rfl rfl rfl ?_
    refine EL_val (R_addE ((2 * a - b + (l[i].toNat : Int))) rfl rfl (by omega) (by omega) (by omega)) rfl rfl rfl ?_
    refine EL_val (R_move rfl) rfl rfl rfl ?_
    refine EL_val (R_move rfl) rfl rfl rfl ?_
    refine EL_val (R_mulE ((2 * b)) rfl rfl (by omega) (by omega) (by omega)) rfl rfl rfl ?_
    refine EL_val (R_addE ((a + 2 * b)) rfl rfl (by omega) (by omega) (by omega)) rfl rfl rfl ?_
    refine EL_val (R_assign rfl) rfl rfl rfl ?_
    refine EL_val (R_assign rfl) rfl rfl rfl ?_
    refine EL_nil ?_
    refine E_seqR ?_
    refine EL_val (R_move rfl) rfl rfl rfl ?_
    refine EL_val (R_remT ((2 * a - b + (l[i].toNat : Int)).tmod 65521) (by omega) rfl (wrap_i64_in (by omega) (by omega)) rfl rfl) rfl rfl rfl ?_
    refine EL_val (R_addE (((2 * a - b + (l[i].toNat : Int)).tmod 65521 + 65521)) rfl rfl (by omega) (by omega) (by omega)) rfl rfl rfl ?_
    refine EL_val (R_remE ((2 * a - b + (l[i].toNat : Int)) % 65521) (a := (2 * a - b + (l[i].toNat : Int)).tmod 65521 + 65521) (b := 65521) (by omega) (by omega) k3 rfl rfl) rfl rfl rfl ?_
    refine EL_val (R_assign rfl) rfl rfl rfl ?_
    refine EL_nil ?_
    refine E_region ?_
    refine EL_val (R_move rfl) rfl rfl rfl ?_
    refine EL_val (R_remE ((a + 2 * b) % 65521) (by omega) (by omega) rfl rfl rfl) rfl rfl rfl ?_
    refine EL_val (R_assign rfl) rfl rfl rfl ?_
    refine EL_nil ?_
    refine inB_n ?_
    refine thenQ_n ?_
    refine E_region ?_
    refine EL_val (R_move rfl) rfl rfl rfl ?_
    first | refine EL_val (R_inc rfl (by omega)) rfl rfl rfl ?_ | refine EL_val (R_add_in rfl rfl (by omega) (by omega)) rfl rfl rfl ?_
    refine EL_val (R_assign rfl) rfl rfl rfl ?_
    refine EL_nil ?_
    refine thenQ_n ?_
    exact ⟨rfl, l.length - (i + 1), [(1, .slice (some ⟨g, o, none⟩) l.length c), (5, .int .i64 (runZ (fromZ s) (l.take (i + 1))).1), (6, .int .i64 (runZ (fromZ s) (l.take (i + 1))).2), (7, .int .i64 ((i + 1 : Nat) : Int))], by omega, ⟨rfl, by rw [← hnext]; rfl, by rw [← hnext]; rfl, rfl, trivial⟩, i + 1, by omega, rfl, rfl, rfl⟩
  · have hi' : i = l.length := by omega
    subst hi'
    rw [List.take_length]
    have hz := runZ_ok l (fromZ_ok s)
    unfold moreS
    rcases hzz : runZ (fromZ s) l with ⟨a, b⟩
    obtain ⟨h1, h2, h3, h4⟩ := hz
    rw [hzz] at h1 h2 h3 h4
    simp only at h1 h2 h3 h4
    unfold sumZ
    refine E_seq ?_
    refine E_seqR ?_
    refine EL_val (R_move rfl) rfl rfl rfl ?_
    refine EL_val (R_move rfl) rfl rfl rfl ?_
    refine EL_val (R_lenSlice rfl Try.underlying56) rfl rfl rfl ?_
    first | refine EL_val (R_lss_t rfl rfl (by omega)) rfl rfl rfl ?_ | refine EL_val (R_lss_f rfl rfl (by omega)) rfl rfl rfl ?_
    refine EL_nil ?_
    refine E_cond_f rfl ?_
    refine E_exit ?_
    refine thenQ_e ?_
    refine thenQ_e ?_
    refine inB_eq rfl ?_
    refine thenQ_n ?_
    refine E_seqR ?_
    refine EL_val (R_move rfl) rfl rfl rfl ?_
    refine EL_val (R_convInt a (hu _ (by omega) (by omega)) rfl Try.underlying3 Try.underlying86) rfl rfl rfl ?_
    refine EL_val (R_mulK (a * 65536) (hu _ (by omega) (by omega)) rfl rfl) rfl rfl rfl ?_
    refine EL_val (R_move rfl) rfl rfl rfl ?_
    refine EL_val (R_convInt b (hu _ (by omega) (by omega)) rfl Try.underlying3 Try.underlying86) rfl rfl rfl ?_
    refine EL_val (R_addK (a * 65536 + b) (hu _ (by omega) (by omega)) rfl rfl) rfl rfl rfl ?_
    refine EL_val (R_assign rfl) rfl rfl rfl ?_
    refine EL_nil ?_
    refine E_ret ?_
    refine ret1 (.inr rfl) rfl rfl ?_
    exact ⟨rfl, rfl⟩
theorem refsum_ok {w : World} {A : Option Addr} {l : List UInt8} {c : Nat} (hl : BS w A l) (hlen : l.length ≤ 9223372036854775806) :
    Ret Try.prog 52 [.slice A l.length c] w fun v w' => v = .int .u32 (sumS l) ∧ w = w' := by
  refine Ret.enter Try.func52 rfl Try.ntmps52 rfl ?_
  simp only [argEnv, Nat.reduceAdd]
  refine E_seqR ?_
  refine EL_val (R_assign rfl) rfl rfl rfl ?_
  refine EL_nil ?_
  refine E_seqR ?_
  refine EL_val (R_move rfl) rfl rfl rfl ?_
  refine EL_step rfl ?_
  refine EO_call K.bd61 rfl rfl (refmore_ok (s := 65536) (by omega) hl hlen) ?_
  rintro _ _ ⟨rfl, rfl⟩
  refine EL_val (R_assign rfl) rfl rfl rfl ?_
  refine EL_nil ?_
  refine E_ret ?_
  refine ret1 (.inr rfl) rfl rfl ?_
  exact ⟨rfl, rfl⟩
end Go.Proofs.Ytifmdcjncbbcgaa
