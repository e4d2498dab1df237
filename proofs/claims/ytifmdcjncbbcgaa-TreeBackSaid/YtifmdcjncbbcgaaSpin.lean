/- Check sums: what package spin reckons. -/
import Derived.Test.YtifmdcjncbbcgaaFacts
import Derived.Test.YtifmdcjncbbcgaaMore
set_option linter.unusedVariables false
set_option linter.unusedSimpArgs false
set_option maxRecDepth 100000
namespace Go.Proofs.Ytifmdcjncbbcgaa
open Go.EW Go.RowKit

/-- bytes as values -/
def bval (l : List UInt8) : List Value := l.map fun b => Value.int .u8 (b.toNat : Int)
theorem bval_length (l : List UInt8) : (bval l).length = l.length := by simp [bval]
theorem bval_one {l : List UInt8} : ∀ v ∈ bval l, v.oneCell' = true := by
  intro v hv
  obtain ⟨b, _, rfl⟩ := List.mem_map.1 hv
  rfl
/-- what a slice of bytes holds -/
def BS (w : World) (A : Option Addr) (l : List UInt8) : Prop := Src w A l.length 1 (bval l)
theorem BS.no {w w' : World} {A : Option Addr} {l : List UInt8} (h : BS w A l) (hm : Mods No w w') : BS w' A l := Src.mods h hm fun _ _ _ h => h
theorem BS.cell {w : World} {A : Option Addr} {l : List UInt8} (h : BS w A l) {i : Nat} (hi : i < l.length) : ∃ g o, A = some ⟨g, o, none⟩ ∧ w.cell? ⟨g, o + i, none⟩ = some (.int .u8 (l[i].toNat : Int)) := by
  obtain ⟨g, o, hA, hc⟩ := h.2 (by omega)
  exact ⟨g, o, hA, hc i _ (by simp [bval, List.getElem?_eq_getElem hi])⟩

def stepZ (z : Int × Int) (x : UInt8) : Int × Int := ((2 * z.1 - z.2 + (x.toNat : Int)) % 65521, (z.1 + 2 * z.2) % 65521)
def runZ (z : Int × Int) (l : List UInt8) : Int × Int := l.foldl stepZ z
def fromZ (s : Int) : Int × Int := (s / 65536 % 65521, s % 65536 % 65521)
def sumZ (z : Int × Int) : Int := z.1 * 65536 + z.2
def moreS (s : Int) (l : List UInt8) : Int := sumZ (runZ (fromZ s) l)
/-- the sum of bytes -/
def sumS (l : List UInt8) : Int := moreS 65536 l
def Zok (z : Int × Int) : Prop := 0 ≤ z.1 ∧ z.1 < 65521 ∧ 0 ≤ z.2 ∧ z.2 < 65521
theorem stepZ_ok (z : Int × Int) (x : UInt8) : Zok (stepZ z x) := by unfold Zok stepZ; simp only; omega
theorem fromZ_ok (s : Int) : Zok (fromZ s) := by unfold Zok fromZ; simp only; omega
theorem runZ_ok : ∀ (l : List UInt8) {z : Int × Int}, Zok z → Zok (runZ z l)
  | [], _, h => h
  | x :: l, z, _ => runZ_ok l (stepZ_ok z x)
theorem sumZ_range {z : Int × Int} (h : Zok z) : 0 ≤ sumZ z ∧ sumZ z < 4294967296 := by
  obtain ⟨h1, h2, h3, h4⟩ := h
  unfold sumZ
  omega
theorem sumS_range (l : List UInt8) : 0 ≤ sumS l ∧ sumS l < 4294967296 := sumZ_range (runZ_ok l (fromZ_ok _))
/-- a register -/
def zV (z : Int × Int) : Value := .complex .f64 (fB z.1) (fB z.2)
theorem fB_0 : fB 0 = 0 := by decide
theorem fB_1 : fB 1 = 4607182418800017408 := by decide
theorem fB_2 : fB 2 = 4611686018427387904 := by decide

theorem mod_ok {w : World} {x : Int} (hx : x.natAbs < 9007199254740992) : Ret Try.prog 68 [.float .f64 (fB x)] w fun v w' => v = .float .f64 (fB (x % 65521)) ∧ w = w' := by
  have ht : x.tmod 65521 = if 0 ≤ x then x % 65521 else -((-x) % 65521) := by
    split
    · rename_i h; exact Int.tmod_eq_emod_of_nonneg h
    · rename_i h
      have h1 : (-x).tmod 65521 = (-x) % 65521 := Int.tmod_eq_emod_of_nonneg (by omega)
      have h2 : (-x).tmod 65521 = -(x.tmod 65521) := Int.neg_tmod x 65521
      omega
  have hb1 : -65521 < x.tmod 65521 ∧ x.tmod 65521 < 65521 := by rw [ht]; split <;> omega
  by_cases h0 : x.tmod 65521 < 0
  · have e : x.tmod 65521 + 65521 = x % 65521 := by rw [ht] at h0 ⊢; split at h0 <;> rename_i h <;> simp only [h, if_true, if_false] <;> omega
    refine Ret.enter Try.func68 rfl Try.ntmps68 rfl ?_
    simp only [argEnv, Nat.reduceAdd]
    refine E_seqR ?_
    refine EL_val (R_assign rfl) rfl rfl rfl ?_
    refine EL_nil ?_
    refine E_seqR ?_
    refine EL_val (R_move rfl) rfl rfl rfl ?_
    refine EL_val (R_floatInt (by omega) (by simp [IntKind.min, IntKind.signed, IntKind.bits]; omega) (by simp [IntKind.max, IntKind.signed, IntKind.bits]; omega) rfl Try.underlying104 Try.underlying3) rfl rfl rfl ?_
    refine EL_val (R_remT (x.tmod 65521) (by omega) rfl (wrap_i64_in (by omega) (by omega)) rfl rfl) rfl rfl rfl ?_
    refine EL_val (R_assign rfl) rfl rfl rfl ?_
    refine EL_nil ?_
    refine E_seq ?_
    refine E_seqR ?_
    refine EL_val (R_move rfl) rfl rfl rfl ?_
    first | refine EL_val (R_lss_t rfl rfl (by omega)) rfl rfl rfl ?_ | refine EL_val (R_lss_f rfl rfl (by omega)) rfl rfl rfl ?_
    refine EL_nil ?_
    refine E_cond_t rfl ?_
    refine E_region ?_
    refine EL_val (R_move rfl) rfl rfl rfl ?_
    refine EL_val (R_add_in rfl rfl (by omega) (by omega)) rfl rfl rfl ?_
    refine EL_val (R_assign rfl) rfl rfl rfl ?_
    refine EL_nil ?_
    refine thenQ_n ?_
    refine E_seqR ?_
    refine EL_val (R_move rfl) rfl rfl rfl ?_
    refine EL_val (R_intFloat rfl Try.underlying3 Try.underlying104) rfl rfl rfl ?_
    refine EL_val (R_assign rfl) rfl rfl rfl ?_
    refine EL_nil ?_
    refine E_ret ?_
    refine ret1 (.inr rfl) rfl rfl ?_
    exact ⟨by rw [e], rfl⟩
  · have e : x.tmod 65521 = x % 65521 := by rw [ht] at h0 ⊢; split at h0 <;> rename_i h <;> simp only [h, if_true, if_false] <;> omega
    refine Ret.enter Try.func68 rfl Try.ntmps68 rfl ?_
    simp only [argEnv, Nat.reduceAdd]
    refine E_seqR ?_
    refine EL_val (R_assign rfl) rfl rfl rfl ?_
    refine EL_nil ?_
    refine E_seqR ?_
    refine EL_val (R_move rfl) rfl rfl rfl ?_
    refine EL_val (R_floatInt (by omega) (by simp [IntKind.min, IntKind.signed, IntKind.bits]; omega) (by simp [IntKind.max, IntKind.signed, IntKind.bits]; omega) rfl Try.underlying104 Try.underlying3) rfl rfl rfl ?_
    refine EL_val (R_remT (x.tmod 65521) (by omega) rfl (wrap_i64_in (by omega) (by omega)) rfl rfl) rfl rfl rfl ?_
    refine EL_val (R_assign rfl) rfl rfl rfl ?_
    refine EL_nil ?_
    refine E_seq ?_
    refine E_seqR ?_
    refine EL_val (R_move rfl) rfl rfl rfl ?_
    first | refine EL_val (R_lss_t rfl rfl (by omega)) rfl rfl rfl ?_ | refine EL_val (R_lss_f rfl rfl (by omega)) rfl rfl rfl ?_
    refine EL_nil ?_
    refine E_cond_f rfl ?_
    refine E_skip ?_
    refine thenQ_n ?_
    refine E_seqR ?_
    refine EL_val (R_move rfl) rfl rfl rfl ?_
    refine EL_val (R_intFloat rfl Try.underlying3 Try.underlying104) rfl rfl rfl ?_
    refine EL_val (R_assign rfl) rfl rfl rfl ?_
    refine EL_nil ?_
    refine E_ret ?_
    refine ret1 (.inr rfl) rfl rfl ?_
    exact ⟨by rw [e], rfl⟩
theorem reduce_ok {w : World} {a b : Int} (ha : a.natAbs < 9007199254740992) (hb : b.natAbs < 9007199254740992) :
    Ret Try.prog 67 [.complex .f64 (fB a) (fB b)] w fun v w' => v = .complex .f64 (fB (a % 65521)) (fB (b % 65521)) ∧ w = w' := by
  refine Ret.enter Try.func67 rfl Try.ntmps67 rfl ?_
  simp only [argEnv, Nat.reduceAdd]
  refine E_seqR ?_
  refine EL_val (R_assign rfl) rfl rfl rfl ?_
  refine EL_nil ?_
  refine E_seqR ?_
  refine EL_val (R_move rfl) rfl rfl rfl ?_
  refine EL_val (R_real rfl) rfl rfl rfl ?_
  refine EL_step rfl ?_
  refine EO_call K.bd68 rfl rfl (mod_ok ha) ?_
  rintro _ _ ⟨rfl, rfl⟩
  refine EL_val (R_move rfl) rfl rfl rfl ?_
  refine EL_val (R_imag rfl) rfl rfl rfl ?_
  refine EL_step rfl ?_
  refine EO_call K.bd68 rfl rfl (mod_ok hb) ?_
  rintro _ _ ⟨rfl, rfl⟩
  refine EL_val (R_complex rfl rfl) rfl rfl rfl ?_
  refine EL_val (R_assign rfl) rfl rfl rfl ?_
  refine EL_nil ?_
  refine E_ret ?_
  refine ret1 (.inr rfl) rfl rfl ?_
  exact ⟨rfl, rfl⟩
theorem step_ok {w : World} {z : Int × Int} (hz : Zok z) (x : UInt8) : Ret Try.prog 65 [zV z, .int .u8 (x.toNat : Int)] w fun v w' => v = zV (stepZ z x) ∧ w = w' := by
  obtain ⟨a, b⟩ := z
  obtain ⟨h1, h2, h3, h4⟩ := hz
  simp only at h1 h2 h3 h4
  have hx : x.toNat < 256 := x.toNat_lt
  unfold zV stepZ
  simp only
  refine Ret.enter Try.func65 rfl Try.ntmps65 rfl ?_
  simp only [argEnv, Nat.reduceAdd]
  refine E_seqR ?_
  refine EL_val (R_assign rfl) rfl rfl rfl ?_
  refine EL_nil ?_
  refine E_seqR ?_
  refine EL_val (R_move rfl) rfl rfl rfl ?_
  refine EL_val (R_cmul (a := a) (b := b) (c := 2) (d := 1) (2 * a - b) (a + 2 * b) ⟨h1, h3, by omega, by omega⟩ (by omega) (by omega) (by omega) (by omega) (by omega) (by omega) (by omega) (by omega) (by decide) (by decide) (by omega) (by omega) rfl (by rw [fB_2, fB_1]; rfl)) rfl rfl rfl ?_
  refine EL_val (R_move rfl) rfl rfl rfl ?_
  refine EL_val (R_intFloat rfl Try.underlying5 Try.underlying104) rfl rfl rfl ?_
  refine EL_val (R_complex rfl rfl) rfl rfl rfl ?_
  refine EL_val (R_cadd (a := 2 * a - b) (b := a + 2 * b) (c := (x.toNat : Int)) (d := 0) (2 * a - b + (x.toNat : Int)) (a + 2 * b) rfl (by omega) (by omega) (by omega) (by omega) (by decide) (by omega) (by omega) rfl (by rw [fB_0]; rfl)) rfl rfl rfl ?_
  refine EL_step rfl ?_
  refine EO_call K.bd67 rfl rfl (reduce_ok (by omega) (by omega)) ?_
  rintro _ _ ⟨rfl, rfl⟩
  refine EL_val (R_assign rfl) rfl rfl rfl ?_
  refine EL_nil ?_
  refine E_ret ?_
  refine ret1 (.inr rfl) rfl rfl ?_
  exact ⟨rfl, rfl⟩
theorem from_ok {w : World} {s : Nat} (hs : s < 4294967296) : Ret Try.prog 64 [.int .u32 (s : Int)] w fun v w' => v = zV (fromZ s) ∧ w = w' := by
  unfold zV fromZ
  simp only
  refine Ret.enter Try.func64 rfl Try.ntmps64 rfl ?_
  simp only [argEnv, Nat.reduceAdd]
  refine E_seqR ?_
  refine EL_val (R_assign rfl) rfl rfl rfl ?_
  refine EL_nil ?_
  refine E_seqR ?_
  refine EL_val (R_move rfl) rfl rfl rfl ?_
  refine EL_val (R_quoE (((s : Int) / 65536)) (by omega) (by omega) rfl (by simp [IntKind.wrap, IntKind.bits, IntKind.signed]; omega) rfl rfl) rfl rfl rfl ?_
  refine EL_val (R_intFloat rfl Try.underlying86 Try.underlying104) rfl rfl rfl ?_
  refine EL_val (R_move rfl) rfl rfl rfl ?_
  refine EL_val (R_remE ((s : Int) % 65536) (by omega) (by omega) rfl rfl rfl) rfl rfl rfl ?_
  refine EL_val (R_intFloat rfl Try.underlying86 Try.underlying104) rfl rfl rfl ?_
  refine EL_val (R_complex rfl rfl) rfl rfl rfl ?_
  refine EL_step rfl ?_
  refine EO_call K.bd67 rfl rfl (reduce_ok (by omega) (by omega)) ?_
  rintro _ _ ⟨rfl, rfl⟩
  refine EL_val (R_assign rfl) rfl rfl rfl ?_
  refine EL_nil ?_
  refine E_ret ?_
  refine ret1 (.inr rfl) rfl rfl ?_
  exact ⟨rfl, rfl⟩
theorem zsum_ok {w : World} {z : Int × Int} (hz : Zok z) : Ret Try.prog 66 [zV z] w fun v w' => v = .int .u32 (sumZ z) ∧ w = w' := by
  obtain ⟨a, b⟩ := z
  obtain ⟨h1, h2, h3, h4⟩ := hz
  simp only at h1 h2 h3 h4
  unfold zV sumZ
  simp only
  refine Ret.enter Try.func66 rfl Try.ntmps66 rfl ?_
  simp only [argEnv, Nat.reduceAdd]
  refine E_seqR ?_
  refine EL_val (R_assign rfl) rfl rfl rfl ?_
  refine EL_nil ?_
  refine E_seqR ?_
  refine EL_val (R_move rfl) rfl rfl rfl ?_
  refine EL_val (R_real rfl) rfl rfl rfl ?_
  refine EL_val (R_floatInt (by omega) (by simp [IntKind.min, IntKind.signed, IntKind.bits]; omega) (by simp [IntKind.max, IntKind.signed, IntKind.bits]; omega) rfl Try.underlying104 Try.underlying86) rfl rfl rfl ?_
  refine EL_val (R_mulK (a * 65536) (by simp [IntKind.wrap, IntKind.bits, IntKind.signed]; omega) rfl rfl) rfl rfl rfl ?_
  refine EL_val (R_move rfl) rfl rfl rfl ?_
  refine EL_val (R_imag rfl) rfl rfl rfl ?_
  refine EL_val (R_floatInt (by omega) (by simp [IntKind.min, IntKind.signed, IntKind.bits]; omega) (by simp [IntKind.max, IntKind.signed, IntKind.bits]; omega) rfl Try.underlying104 Try.underlying86) rfl rfl rfl ?_
  refine EL_val (R_addK (a * 65536 + b) (by simp [IntKind.wrap, IntKind.bits, IntKind.signed]; omega) rfl rfl) rfl rfl rfl ?_
  refine EL_val (R_assign rfl) rfl rfl rfl ?_
  refine EL_nil ?_
  refine E_ret ?_
  refine ret1 (.inr rfl) rfl rfl ?_
  exact ⟨rfl, rfl⟩
theorem more_ok {w : World} {s : Nat} (hs : s < 4294967296) {A : Option Addr} {l : List UInt8} {c : Nat} (hl : BS w A l) (hlen : l.length ≤ 9223372036854775806) :
    Ret Try.prog 62 [.int .u32 (s : Int), .slice A l.length c] w fun v w' => v = .int .u32 (moreS s l) ∧ w = w' := by
  refine Ret.enter Try.func62 rfl Try.ntmps62 rfl ?_
  simp only [argEnv, Nat.reduceAdd]
  refine E_seqR ?_
  refine EL_val (R_assign rfl) rfl rfl rfl ?_
  refine EL_nil ?_
  refine E_seqR ?_
  refine EL_val (R_move rfl) rfl rfl rfl ?_
  refine EL_step rfl ?_
  refine EO_call K.bd64 rfl rfl (from_ok hs) ?_
  rintro _ _ ⟨rfl, rfl⟩
  refine EL_val (R_assign rfl) rfl rfl rfl ?_
  refine EL_nil ?_
  refine E_seq ?_
  refine E_seqR ?_
  refine EL_val (R_move rfl) rfl rfl rfl ?_
  refine EL_val (R_lenSlice rfl Try.underlying56) rfl rfl rfl ?_
  refine EL_val (R_move rfl) rfl rfl rfl ?_
  refine EL_nil ?_
  refine E_block ?_
  refine E_loop (fun m' e' w' => ∃ i, i ≤ l.length ∧ m' = l.length - i ∧ e' = [(5, zV (runZ (fromZ s) (l.take i))), (10, .slice A l.length c), (11, .int .i64 (l.length : Int)), (12, .int .i64 ((i : Nat) : Int))] ∧ w = w') l.length [(5, zV (fromZ s)), (10, .slice A l.length c), (11, .int .i64 (l.length : Int)), (12, .int .i64 ((0 : Nat) : Int))] ⟨rfl, rfl, rfl, rfl, trivial⟩ ⟨0, by omega, by omega, rfl, rfl⟩ ?_
  rintro m' e w' ⟨i, hi, rfl, rfl, rfl⟩
  by_cases hlt : i < l.length
  · obtain ⟨g, o, rfl, hc⟩ := hl.cell hlt
    have hz := runZ_ok (l.take i) (fromZ_ok s)
    have hnext : stepZ (runZ (fromZ s) (l.take i)) l[i] = runZ (fromZ s) (l.take (i + 1)) := by
      rw [List.take_succ_eq_append_getElem hlt]
      simp only [runZ, List.foldl_append, List.foldl_cons, List.foldl_nil]

    refine E_seqR ?_
    first | refine EL_val (R_lss_t rfl rfl (by omega)) rfl rfl rfl ?_ | refine EL_val (R_lss_f rfl rfl (by omega)) rfl rfl rfl ?_
    refine EL_nil ?_
    refine E_seq ?_
    refine E_cond_t rfl ?_
    refine E_skip ?_
    refine thenQ_n ?_
    refine E_seq ?_
    refine E_block ?_
    refine E_seqR ?_
    refine EL_val (R_indexAddr rfl rfl Try.underlying56 K.sz5 (m := i) rfl hlt) rfl rfl rfl ?_
    refine EL_val (R_load rfl K.ag5 ((by rw [Nat.mul_one]; exact hc))) rfl rfl rfl ?_
    refine EL_val (R_assign rfl) rfl rfl rfl ?_
    refine EL_nil ?_
    refine E_region ?_
    refine EL_val (R_move rfl) rfl rfl rfl ?_
    refine EL_val (R_move rfl) rfl rfl rfl ?_
    refine EL_step rfl ?_
    refine EO_call K.bd65 rfl rfl (step_ok hz l[i]) ?_
    rintro _ _ ⟨rfl, rfl⟩
    refine EL_val (R_assign rfl) rfl rfl rfl ?_
    refine EL_nil ?_
    refine inB_n ?_
    refine thenQ_n ?_
    refine E_region ?_
    first | refine EL_val (R_inc rfl (by omega)) rfl rfl rfl ?_ | refine EL_val (R_add_in rfl rfl (by omega) (by omega)) rfl rfl rfl ?_
    refine EL_val (R_move rfl) rfl rfl rfl ?_
    refine EL_nil ?_
    refine thenQ_n ?_
    refine ⟨rfl, l.length - (i + 1), [(5, zV (runZ (fromZ s) (l.take (i + 1)))), (10, .slice (some ⟨g, o, none⟩) l.length c), (11, .int .i64 (l.length : Int)), (12, .int .i64 ((i + 1 : Nat) : Int))], by omega, ⟨by rw [← hnext]; rfl, rfl, rfl, rfl, trivial⟩, i + 1, by omega, rfl, rfl, rfl⟩
  · have hi' : i = l.length := by omega
    subst hi'
    rw [List.take_length]
    have hz := runZ_ok l (fromZ_ok s)

    refine E_seqR ?_
    first | refine EL_val (R_lss_t rfl rfl (by omega)) rfl rfl rfl ?_ | refine EL_val (R_lss_f rfl rfl (by omega)) rfl rfl rfl ?_
    refine EL_nil ?_
    refine E_seq ?_
    refine E_cond_f rfl ?_
    refine E_exit ?_
    refine thenQ_e ?_
    refine thenQ_e ?_
    refine inB_eq rfl ?_
    refine thenQ_n ?_
    refine E_seqR ?_
    refine EL_val (R_move rfl) rfl rfl rfl ?_
    refine EL_step rfl ?_
    refine EO_call K.bd66 rfl rfl (zsum_ok hz) ?_
    rintro _ _ ⟨rfl, rfl⟩
    refine EL_val (R_assign rfl) rfl rfl rfl ?_
    refine EL_nil ?_
    refine E_ret ?_
    refine ret1 (.inr rfl) rfl rfl ?_
    exact ⟨rfl, rfl⟩
theorem sum_ok {w : World} {A : Option Addr} {l : List UInt8} {c : Nat} (hl : BS w A l) (hlen : l.length ≤ 9223372036854775806) :
    Ret Try.prog 56 [.slice A l.length c] w fun v w' => v = .int .u32 (sumS l) ∧ w = w' := by
  refine Ret.enter Try.func56 rfl Try.ntmps56 rfl ?_
  simp only [argEnv, Nat.reduceAdd]
  refine E_seqR ?_
  refine EL_val (R_assign rfl) rfl rfl rfl ?_
  refine EL_nil ?_
  refine E_seqR ?_
  refine EL_val (R_move rfl) rfl rfl rfl ?_
  refine EL_step rfl ?_
  refine EO_call K.bd62 rfl rfl (more_ok (s := 65536) (by omega) hl hlen) ?_
  rintro _ _ ⟨rfl, rfl⟩
  refine EL_val (R_assign rfl) rfl rfl rfl ?_
  refine EL_nil ?_
  refine E_ret ?_
  refine ret1 (.inr rfl) rfl rfl ?_
  exact ⟨rfl, rfl⟩
end Go.Proofs.Ytifmdcjncbbcgaa
