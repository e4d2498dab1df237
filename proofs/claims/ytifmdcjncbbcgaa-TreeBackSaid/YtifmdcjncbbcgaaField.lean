/- Blocks of bytes: numbers put and read, pages, seals (packages field, bytes). -/
import Derived.Test.YtifmdcjncbbcgaaFoot
set_option linter.unusedVariables false
set_option linter.unusedSimpArgs false
set_option maxRecDepth 100000
namespace Go.Proofs.Ytifmdcjncbbcgaa
open Go.EW Go.RowKit

/-- a number's first k bytes, the least one first -/
def leB (n k : Nat) : List UInt8 := (List.range k).map fun i => UInt8.ofNat (n / 2 ^ (8 * i))
theorem leB_length (n k : Nat) : (leB n k).length = k := by simp [leB]
theorem leB_succ (n k : Nat) : leB n (k + 1) = leB n k ++ [UInt8.ofNat (n / 2 ^ (8 * k))] := by simp [leB, List.range_succ]
/-- the number that bytes are -/
def leN : List UInt8 → Nat
  | [] => 0
  | b :: r => b.toNat + 256 * leN r
theorem leN_snoc : ∀ (l : List UInt8) (b : UInt8), leN (l ++ [b]) = leN l + b.toNat * 2 ^ (8 * l.length)
  | [], b => by simp [leN]
  | a :: l, b => by
    simp only [List.cons_append, leN, leN_snoc l b, List.length_cons, Nat.mul_add, Nat.pow_add]
    have : 256 * (b.toNat * 2 ^ (8 * l.length)) = b.toNat * (2 ^ (8 * l.length) * 2 ^ (8 * 1)) := by rw [show 2 ^ (8 * 1) = 256 from rfl]; ac_rfl
    omega
theorem leN_lt : ∀ (l : List UInt8), leN l < 2 ^ (8 * l.length)
  | [] => by simp [leN]
  | a :: l => by
    have h1 := leN_lt l
    have h2 : a.toNat < 256 := a.toNat_lt
    have h3 : 2 ^ (8 * (l.length + 1)) = 256 * 2 ^ (8 * l.length) := by rw [Nat.mul_add, Nat.pow_add]; simp [Nat.mul_comm]
    simp only [leN, List.length_cons, h3]
    omega
theorem leN_leB (n : Nat) : ∀ (k : Nat), leN (leB n k) = n % 2 ^ (8 * k)
  | 0 => by simp [leB, leN, Nat.mod_one]
  | k + 1 => by
    rw [leB_succ, leN_snoc, leB_length, leN_leB n k]
    have h1 : (UInt8.ofNat (n / 2 ^ (8 * k))).toNat = n / 2 ^ (8 * k) % 256 := by simp
    rw [h1, show 8 * (k + 1) = 8 * k + 8 from by omega, Nat.pow_add, Nat.mod_mul]
    simp [Nat.mul_comm]
theorem or_join {a x s : Nat} (ha : a < 2 ^ s) (h : a + x * 2 ^ s < 9223372036854775808) :
    IntKind.i64.wrap (BitVec.ofInt IntKind.i64.bits (a : Int) ||| BitVec.ofInt IntKind.i64.bits ((x * 2 ^ s : Nat) : Int)).toNat = ((a + x * 2 ^ s : Nat) : Int) := by
  have e1 : (BitVec.ofInt IntKind.i64.bits (a : Int)).toNat = a := by
    rw [BitVec.toNat_ofInt]
    show ((a : Int) % ((2 ^ 64 : Nat) : Int)).toNat = a
    omega
  have e2 : (BitVec.ofInt IntKind.i64.bits ((x * 2 ^ s : Nat) : Int)).toNat = x * 2 ^ s := by
    rw [BitVec.toNat_ofInt]
    show (((x * 2 ^ s : Nat) : Int) % ((2 ^ 64 : Nat) : Int)).toNat = _
    omega
  rw [BitVec.toNat_or, e1, e2]
  have e3 : a ||| x * 2 ^ s = a + x * 2 ^ s := by
    rw [Nat.or_comm, Nat.mul_comm, ← Nat.two_pow_add_eq_or_of_lt ha, Nat.add_comm]
  rw [e3]
  exact wrap_i64_in (by omega) (by omega)

/-- bytes in a row of their own -/
def OB (base : Nat) (w : World) (v : Value) (l : List UInt8) : Prop := w.ownsRow base 5 1 v l.length (bval l)
theorem OB.form {base : Nat} {w : World} {v : Value} {l : List UInt8} (h : OB base w v l) (h0 : 0 < l.length) : ∃ g cap, v = .slice (some ⟨g, 0, none⟩) l.length cap ∧ base ≤ g ∧ l.length ≤ cap ∧ cap ≤ maxLen ∧ (∃ cur, Bk w g cur 5 ∧ cur.size = cap) ∧ BS w (some ⟨g, 0, none⟩) l := by
  obtain ⟨g, cap, cur, rfl, hb, hbk, h1, h2, h3, h4⟩ := own_form h h0
  exact ⟨g, cap, rfl, hb, h1, h2, ⟨cur, hbk, by omega⟩, Src.own h⟩
theorem BS.take {w : World} {A : Option Addr} {l : List UInt8} (h : BS w A l) (k : Nat) (hk : k ≤ l.length) : BS w A (l.take k) := by
  refine ⟨by simp [bval], fun h0 => ?_⟩
  have h0' : 0 < l.length := by simp at h0; omega
  obtain ⟨g, i, hA, hc⟩ := h.2 h0'
  refine ⟨g, i, hA, fun j v hj => hc j v ?_⟩
  simp only [bval, List.getElem?_toArray, List.getElem?_map, List.getElem?_take] at hj ⊢
  split at hj
  · exact hj
  · cases hj
theorem BS.drop {w : World} {g i : Nat} {l : List UInt8} (h : BS w (some ⟨g, i, none⟩) l) (k : Nat) (hk : k ≤ l.length) : BS w (some ⟨g, i + k * 1, none⟩) (l.drop k) := by
  refine ⟨by simp [bval], fun h0 => ?_⟩
  have h0' : 0 < l.length := by simp at h0; omega
  obtain ⟨g', i', hA, hc⟩ := h.2 h0'
  injection hA with hA
  injection hA with h1 h2 _
  subst h1; subst h2
  refine ⟨g, i + k * 1, rfl, fun j v hj => ?_⟩
  have := hc (k + j) v (by simpa [bval] using hj)
  rw [show i + k * 1 + j = i + (k + j) from by omega]
  exact this
theorem BS.addr {w : World} {A : Option Addr} {l : List UInt8} (h : BS w A l) (h0 : 0 < l.length) : ∃ g i, A = some ⟨g, i, none⟩ := by
  obtain ⟨g, i, hA, _⟩ := h.2 h0
  exact ⟨g, i, hA⟩

theorem splice_snoc {C : Array Value} {o : Nat} {xs : List Value} {v : Value} (h : o + xs.length + 1 ≤ C.size) : (splice C o xs.toArray).setIfInBounds (o + xs.length) v = splice C o (xs ++ [v]).toArray := by
  apply Array.ext_getElem?
  intro k
  have h1 : (splice C o xs.toArray).size = C.size := splice_size (by simp; omega)
  by_cases hk : o + xs.length = k
  · subst hk
    rw [Array.getElem?_setIfInBounds_self_of_lt (by omega), splice_in (by simp; omega) (by simp)]
    simp
  · rw [Array.getElem?_setIfInBounds_ne hk]
    by_cases hin : o ≤ k ∧ k < o + xs.length
    · obtain ⟨j, rfl⟩ : ∃ j, k = o + j := ⟨k - o, by omega⟩
      rw [splice_in (by simp; omega) (by simp; omega), splice_in (by simp; omega) (by simp; omega)]
      simp [List.getElem?_append_left (show j < xs.length by omega)]
    · rw [splice_out (by simp; omega) (by simp; omega), splice_out (by simp; omega) (by simp; omega)]
theorem put_b_ok {w : World} {g o k c n : Nat} {C : Array Value} (hb : Bk w g C 5) (hfit : o + k ≤ C.size) (hk : k ≤ 4) (hn : n < 4294967296) :
    Ret Try.prog 59 [.slice (some ⟨g, o, none⟩) k c, .int .u32 (n : Int)] w fun v w' => Upd w w' g (splice C o (bval (leB n k)).toArray) 5 := by
  refine Ret.enter Try.func59 rfl Try.ntmps59 rfl ?_
  simp only [argEnv, Nat.reduceAdd]
  refine E_seqR ?_
  refine EL_val (R_move rfl) rfl rfl rfl ?_
  refine EL_val (R_lenSlice rfl Try.underlying56) rfl rfl rfl ?_
  refine EL_val (R_move rfl) rfl rfl rfl ?_
  refine EL_nil ?_
  refine E_block ?_
  refine E_loop (fun m' e' w' => ∃ i, i ≤ k ∧ m' = k - i ∧ e' = [(0, .slice (some ⟨g, o, none⟩) k c), (1, .int .u32 (n : Int)), (6, .int .i64 (k : Int)), (7, .int .i64 ((i : Nat) : Int))] ∧ Upd w w' g (splice C o (bval (leB n i)).toArray) 5) k [(0, .slice (some ⟨g, o, none⟩) k c), (1, .int .u32 (n : Int)), (6, .int .i64 (k : Int)), (7, .int .i64 ((0 : Nat) : Int))] ⟨rfl, rfl, rfl, rfl, trivial⟩ ⟨0, by omega, by omega, rfl, ⟨Mods.refl _ _, by simpa [leB, bval, splice] using hb, rfl⟩⟩ ?_
  rintro m' e w' ⟨i, hi, rfl, rfl, hu⟩
  by_cases hlt : i < k
  · have hsz : (splice C o (bval (leB n i)).toArray).size = C.size := splice_size (by simp [bval_length, leB_length]; omega)
    have hp : (n : Int).fdiv (2 ^ (8 * (i : Int)).toNat) = ((n / 2 ^ (8 * i) : Nat) : Int) := by
      rw [show (8 * (i : Int)).toNat = 8 * i from by omega, Int.fdiv_eq_ediv_of_nonneg _ (by exact_mod_cast Nat.zero_le _)]
      exact_mod_cast rfl
    have hw : IntKind.u8.wrap ((n / 2 ^ (8 * i) : Nat) : Int) = ((UInt8.ofNat (n / 2 ^ (8 * i))).toNat : Int) := by
      simp [IntKind.wrap, IntKind.bits, IntKind.signed]

    refine E_seqR ?_
    first | refine EL_val (R_lss_t rfl rfl (by omega)) rfl rfl rfl ?_ | refine EL_val (R_lss_f rfl rfl (by omega)) rfl rfl rfl ?_
    refine EL_nil ?_
    refine E_seq ?_
    refine E_cond_t rfl ?_
    refine E_skip ?_
    refine thenQ_n ?_
    refine E_seq ?_
    refine E_block ?_
    refine E_seqR ?_
    refine EL_val (R_move rfl) rfl rfl rfl ?_
    refine EL_val (R_assign rfl) rfl rfl rfl ?_
    refine EL_nil ?_
    refine E_region ?_
    refine EL_val (R_move rfl) rfl rfl rfl ?_
    refine EL_val (R_move rfl) rfl rfl rfl ?_
    refine EL_val (R_move rfl) rfl rfl rfl ?_
    refine EL_val (R_move rfl) rfl rfl rfl ?_
    refine EL_val (R_mul_in rfl rfl (by omega) (by omega)) rfl rfl rfl ?_
    refine EL_val (R_shrE ((n / 2 ^ (8 * i) : Nat) : Int) (by omega) (by simp [IntKind.bits]; omega) hp rfl rfl) rfl rfl rfl ?_
    refine EL_val (R_convInt ((UInt8.ofNat (n / 2 ^ (8 * i))).toNat : Int) hw rfl Try.underlying86 Try.underlying5) rfl rfl rfl ?_
    refine EL_val (R_indexAddr rfl rfl Try.underlying56 K.sz5 (m := i) rfl hlt) rfl rfl rfl ?_
    refine EL_step rfl ?_
    refine EO_store1 rfl rfl K.sz5 rfl hu.bk (by omega) ?_
    intro w3 hu3
    refine EL_nil ?_
    refine inB_n ?_
    refine thenQ_n ?_
    refine E_region ?_
    first | refine EL_val (R_inc rfl (by omega)) rfl rfl rfl ?_ | refine EL_val (R_add_in rfl rfl (by omega) (by omega)) rfl rfl rfl ?_
    refine EL_val (R_move rfl) rfl rfl rfl ?_
    refine EL_nil ?_
    refine thenQ_n ?_
    refine ⟨rfl, k - (i + 1), [(0, .slice (some ⟨g, o, none⟩) k c), (1, .int .u32 (n : Int)), (6, .int .i64 (k : Int)), (7, .int .i64 ((i + 1 : Nat) : Int))], by omega, ⟨rfl, rfl, rfl, rfl, trivial⟩, i + 1, by omega, rfl, rfl, ?_⟩
    have hs := splice_snoc (C := C) (o := o) (xs := bval (leB n i)) (v := .int .u8 ((UInt8.ofNat (n / 2 ^ (8 * i))).toNat : Int)) (by simp [bval_length, leB_length]; omega)
    rw [bval_length, leB_length] at hs
    rw [Nat.mul_one, hs] at hu3
    rw [leB_succ, show bval (leB n i ++ [UInt8.ofNat (n / 2 ^ (8 * i))]) = bval (leB n i) ++ [.int .u8 ((UInt8.ofNat (n / 2 ^ (8 * i))).toNat : Int)] from by simp [bval]]
    exact hu.trans hu3
  · have hi' : i = k := by omega
    subst hi'

    refine E_seqR ?_
    first | refine EL_val (R_lss_t rfl rfl (by omega)) rfl rfl rfl ?_ | refine EL_val (R_lss_f rfl rfl (by omega)) rfl rfl rfl ?_
    refine EL_nil ?_
    refine E_seq ?_
    refine E_cond_f rfl ?_
    refine E_exit ?_
    refine thenQ_e ?_
    refine thenQ_e ?_
    refine inB_eq rfl ?_
    refine ret0 (.inl rfl) rfl ?_
    exact hu
theorem get_b_ok {w : World} {A : Option Addr} {l : List UInt8} {c : Nat} (hl : BS w A l) (hlen : l.length ≤ 4) :
    Ret Try.prog 55 [.slice A l.length c] w fun v w' => v = .int .i64 (leN l : Int) ∧ w = w' := by
  refine Ret.enter Try.func55 rfl Try.ntmps55 rfl ?_
  simp only [argEnv, Nat.reduceAdd]
  refine E_seqR ?_
  refine EL_val (R_assign rfl) rfl rfl rfl ?_
  refine EL_nil ?_
  refine E_seqR ?_
  refine EL_val (R_assign rfl) rfl rfl rfl ?_
  refine EL_nil ?_
  refine E_seq ?_
  refine E_seqR ?_
  refine EL_val (R_move rfl) rfl rfl rfl ?_
  refine EL_val (R_lenSlice rfl Try.underlying56) rfl rfl rfl ?_
  refine EL_val (R_move rfl) rfl rfl rfl ?_
  refine EL_nil ?_
  refine E_block ?_
  refine E_loop (fun m' e' w' => ∃ i, i ≤ l.length ∧ m' = l.length - i ∧ e' = [(3, .int .i64 (leN (l.take i) : Int)), (6, .slice A l.length c), (7, .int .i64 (l.length : Int)), (8, .int .i64 ((i : Nat) : Int))] ∧ w = w') l.length [(3, .int .i64 (leN (l.take 0) : Int)), (6, .slice A l.length c), (7, .int .i64 (l.length : Int)), (8, .int .i64 ((0 : Nat) : Int))] ⟨rfl, rfl, rfl, rfl, trivial⟩ ⟨0, by omega, by omega, rfl, rfl⟩ ?_
  rintro m' e w' ⟨i, hi, rfl, rfl, rfl⟩
  by_cases hlt : i < l.length
  · obtain ⟨g, o, rfl, hc⟩ := hl.cell hlt
    have hx : l[i].toNat < 256 := l[i].toNat_lt
    have hL := leN_lt (l.take i)
    have hti : (l.take i).length = i := by simp; omega
    rw [hti] at hL
    have hp4 : 2 ^ (8 * i) ≤ 2 ^ 24 := Nat.pow_le_pow_right (by omega) (by omega)
    have hm : l[i].toNat * 2 ^ (8 * i) ≤ 255 * 2 ^ 24 := Nat.mul_le_mul (by omega) hp4
    have hshl : IntKind.i64.wrap ((l[i].toNat : Int) * 2 ^ (8 * (i : Int)).toNat) = ((l[i].toNat * 2 ^ (8 * i) : Nat) : Int) := by
      rw [show (8 * (i : Int)).toNat = 8 * i from by omega]
      have e : (l[i].toNat : Int) * 2 ^ (8 * i) = ((l[i].toNat * 2 ^ (8 * i) : Nat) : Int) := by push_cast; rfl
      rw [e]
      exact wrap_i64_in (by omega) (by omega)
    have hor := or_join (a := leN (l.take i)) (x := l[i].toNat) (s := 8 * i) hL (by omega)
    have hnext : leN (l.take i) + l[i].toNat * 2 ^ (8 * i) = leN (l.take (i + 1)) := by
      rw [List.take_succ_eq_append_getElem hlt, leN_snoc, hti]

    refine E_seqR ?_
    first | refine EL_val (R_lss_t rfl rfl (by omega)) rfl rfl rfl ?_ | refine EL_val (R_lss_f rfl rfl (by omega)) rfl rfl rfl ?_
    refine EL_nil ?_
    refine E_seq ?_
    refine E_cond_t rfl ?_
    refine E_skip ?_
    refine thenQ_n ?_
    refine E_seq ?_
    refine E_block ?_
    refine E_seqR ?_
    refine EL_val (R_move rfl) rfl rfl rfl ?_
    refine EL_val (R_indexAddr rfl rfl Try.underlying56 K.sz5 (m := i) rfl hlt) rfl rfl rfl ?_
    refine EL_val (R_load rfl K.ag5 ((by rw [Nat.mul_one]; exact hc))) rfl rfl rfl ?_
    refine EL_val (R_assign rfl) rfl rfl rfl ?_
    refine EL_val (R_assign rfl) rfl rfl rfl ?_
    refine EL_nil ?_
    refine E_region ?_
    refine EL_val (R_move rfl) rfl rfl rfl ?_
    refine EL_val (R_move rfl) rfl rfl rfl ?_
    refine EL_val (R_convInt (l[i].toNat : Int) (wrap_i64_in (by omega) (by omega)) rfl Try.underlying5 Try.underlying3) rfl rfl rfl ?_
    refine EL_val (R_move rfl) rfl rfl rfl ?_
    refine EL_val (R_mul_in rfl rfl (by omega) (by omega)) rfl rfl rfl ?_
    refine EL_val (R_shlE ((l[i].toNat * 2 ^ (8 * i) : Nat) : Int) (by omega) (by simp [IntKind.bits]; omega) hshl rfl rfl) rfl rfl rfl ?_
    refine EL_val (R_orE ((leN (l.take i) + l[i].toNat * 2 ^ (8 * i) : Nat) : Int) hor rfl rfl) rfl rfl rfl ?_
    refine EL_val (R_assign rfl) rfl rfl rfl ?_
    refine EL_nil ?_
    refine inB_n ?_
    refine thenQ_n ?_
    refine E_region ?_
    first | refine EL_val (R_inc rfl (by omega)) rfl rfl rfl ?_ | refine EL_val (R_add_in rfl rfl (by omega) (by omega)) rfl rfl rfl ?_
    refine EL_val (R_move rfl) rfl rfl rfl ?_
    refine EL_nil ?_
    refine thenQ_n ?_
    refine ⟨rfl, l.length - (i + 1), [(3, .int .i64 (leN (l.take (i + 1)) : Int)), (6, .slice (some ⟨g, o, none⟩) l.length c), (7, .int .i64 (l.length : Int)), (8, .int .i64 ((i + 1 : Nat) : Int))], by omega, ⟨by rw [← hnext]; rfl, rfl, rfl, rfl, trivial⟩, i + 1, by omega, rfl, rfl, rfl⟩
  · have hi' : i = l.length := by omega
    subst hi'

    refine E_seqR ?_
    first | refine EL_val (R_lss_t rfl rfl (by omega)) rfl rfl rfl ?_ | refine EL_val (R_lss_f rfl rfl (by omega)) rfl rfl rfl ?_
    refine EL_nil ?_
    refine E_seq ?_
    refine E_cond_f rfl ?_
    refine E_exit ?_
    refine thenQ_e ?_
    refine thenQ_e ?_
    refine inB_eq rfl ?_
    refine thenQ_n ?_
    refine E_seqR ?_
    refine EL_val (R_move rfl) rfl rfl rfl ?_
    refine EL_val (R_assign rfl) rfl rfl rfl ?_
    refine EL_nil ?_
    refine E_ret ?_
    refine ret1 (.inr rfl) rfl rfl ?_
    rw [List.take_length]
    exact ⟨rfl, rfl⟩
theorem bclone_ok {w : World} {A : Option Addr} {l : List UInt8} {c : Nat} (hl : BS w A l) (h0 : 0 < l.length) (hlen : l.length ≤ 1048576) :
    Ret Try.prog 63 [.slice A l.length c] w fun v w' => OB w.heap.size w' v l ∧ Mods No w w' := by
  obtain ⟨g, i, rfl⟩ := hl.addr h0
  refine Ret.enter Try.func63 rfl Try.ntmps63 rfl ?_
  simp only [argEnv, Nat.reduceAdd]
  refine E_seqR ?_
  refine EL_val (R_assign rfl) rfl rfl rfl ?_
  refine EL_nil ?_
  refine E_seq ?_
  refine E_seqR ?_
  refine EL_val (R_move rfl) rfl rfl rfl ?_
  refine EL_val (R_eqlSliceNil rfl Try.underlying56) rfl rfl rfl ?_
  refine EL_nil ?_
  refine E_cond_f rfl ?_
  refine E_skip ?_
  refine thenQ_n ?_
  refine E_seqR ?_
  refine EL_step rfl ?_
  refine EO_buildSlice0 Try.underlying56 K.sz5 rfl ?_
  intro w1 hn
  refine EL_val (R_move rfl) rfl rfl rfl ?_
  refine EL_step rfl ?_
  refine EO_append rfl rfl Try.underlying56 K.sz5 K.zr5 K.by5 rfl (by decide) (hn.own0 (m := 0) rfl (Nat.le_refl _) (by simp only [maxLen]; omega)) (hl.no hn.mods) bval_one (by simp only [maxLen]; omega) (by omega) (by have := hn.size; omega) rfl ?_
  intro v2 w2 ho hm2 hat
  refine EL_val (R_assign rfl) rfl rfl rfl ?_
  refine EL_nil ?_
  refine E_ret ?_
  refine ret1 (.inr rfl) rfl rfl ?_
  refine ⟨by unfold OB; simpa using ho, hn.mods.trans' (hm2.mono (S' := fun i => i = w.heap.size) fun i _ hi => ?_) fun i hi hh => ?_⟩
  · simpa [Value.ownBlock] using hi
  · omega
end Go.Proofs.Ytifmdcjncbbcgaa
