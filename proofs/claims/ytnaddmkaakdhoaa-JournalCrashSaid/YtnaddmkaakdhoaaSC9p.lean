/-
  Texts of this claim, joined, without what the claim does not use: XCrc X80 X53 JD
-/
import Derived.Laws.Entries
import Derived.Test.YtnaddmkaakdhoaaSC9o
section
namespace Go.Proofs.Ytnaddmkaakdhoaa.Crc

abbrev W32 := BitVec 32
def poly : W32 := 2197175160#32
def st1 (v : W32) : W32 := if v.getLsbD 0 = true then (v >>> 1) ^^^ poly else v >>> 1
def stN : Nat → W32 → W32
  | 0, v => v
  | n + 1, v => stN n (st1 v)
def upd (v c : W32) : W32 := stN 8 (v ^^^ c)
def crc (v : W32) (l : List Int) : W32 := l.foldl (fun v c => upd v (BitVec.ofInt 32 c)) v
def sum (l : List Int) : Int := ((~~~ (crc (BitVec.allOnes 32) l)).toNat : Int)

theorem st1_xor (a b : W32) : st1 (a ^^^ b) = st1 a ^^^ st1 b := by
  unfold st1
  rw [BitVec.getLsbD_xor]
  cases ha : a.getLsbD 0 <;> cases hb : b.getLsbD 0 <;> simp [BitVec.ushiftRight_xor_distrib]
  · rw [BitVec.xor_assoc]
  · rw [BitVec.xor_assoc, BitVec.xor_assoc, BitVec.xor_comm poly]
  · rw [show a >>> 1 ^^^ poly ^^^ (b >>> 1 ^^^ poly) = (a >>> 1 ^^^ b >>> 1) ^^^ (poly ^^^ poly) from by
      rw [BitVec.xor_assoc, BitVec.xor_assoc, ← BitVec.xor_assoc poly, BitVec.xor_comm poly (b >>> 1), BitVec.xor_assoc (b >>> 1)], BitVec.xor_self, BitVec.xor_zero]

theorem stN_xor : ∀ (n : Nat) (a b : W32), stN n (a ^^^ b) = stN n a ^^^ stN n b
  | 0, _, _ => rfl
  | n + 1, a, b => by simp only [stN]; rw [st1_xor, stN_xor n]

theorem stN_add : ∀ (m n : Nat) (a : W32), stN (m + n) a = stN n (stN m a)
  | 0, n, a => by simp [stN]
  | m + 1, n, a => by rw [Nat.succ_add]; simp only [stN]; exact stN_add m n _

theorem st1_even (a : W32) (h : a.getLsbD 0 = false) : st1 a = a >>> 1 := by unfold st1; rw [h, if_neg (by simp)]

theorem stN_low : ∀ (n : Nat) (a : W32), (∀ i, i < n → a.getLsbD i = false) → stN n a = a >>> n
  | 0, a, _ => by simp [stN]
  | n + 1, a, h => by
    simp only [stN]
    rw [st1_even a (h 0 (by omega)), stN_low n]
    · rw [← BitVec.shiftRight_add, Nat.add_comm]
    · intro i hi
      rw [BitVec.getLsbD_ushiftRight]
      exact h _ (by omega)

theorem split4 (v : W32) : v = (v &&& 15#32) ^^^ ((v >>> 4) <<< 4) := by
  apply BitVec.eq_of_getLsbD_eq
  intro i hi
  have h15 : (15#32).getLsbD i = decide (i < 4) := by
    rcases Nat.lt_or_ge i 4 with h | h
    · have : i = 0 ∨ i = 1 ∨ i = 2 ∨ i = 3 := by omega
      rcases this with rfl | rfl | rfl | rfl <;> rfl
    · rw [decide_eq_false (by omega)]
      rw [BitVec.getLsbD_ofNat]
      have : (15 : Nat).testBit i = false := Nat.testBit_lt_two_pow (Nat.lt_of_lt_of_le (by decide : 15 < 2 ^ 4) (Nat.pow_le_pow_right (by decide) h))
      rw [this]; simp
  simp only [BitVec.getLsbD_xor, BitVec.getLsbD_and, BitVec.getLsbD_shiftLeft, BitVec.getLsbD_ushiftRight, h15]
  by_cases h : i < 4
  · simp [h]
  · have e : 4 + (i - 4) = i := by omega
    simp [h, hi, e]

theorem nib (v : W32) : stN 4 v = (v >>> 4) ^^^ stN 4 (v &&& 15#32) := by
  have h := stN_xor 4 (v &&& 15#32) ((v >>> 4) <<< 4)
  rw [← split4 v] at h
  rw [h, stN_low 4 ((v >>> 4) <<< 4)]
  · rw [BitVec.xor_comm]
    congr 1
    apply BitVec.eq_of_getLsbD_eq
    intro i hi
    simp only [BitVec.getLsbD_shiftLeft, BitVec.getLsbD_ushiftRight]
    by_cases h : 4 + i < 32
    · simp [h]
    · rw [BitVec.getLsbD_of_ge v (4 + i) (by omega)]; simp; omega
  · intro i hi
    simp [BitVec.getLsbD_shiftLeft, hi]

theorem upd_nib (v c : W32) : upd v c = ((((v ^^^ c) >>> 4) ^^^ stN 4 ((v ^^^ c) &&& 15#32)) >>> 4) ^^^ stN 4 ((((v ^^^ c) >>> 4) ^^^ stN 4 ((v ^^^ c) &&& 15#32)) &&& 15#32) := by
  unfold upd
  rw [show (8 : Nat) = 4 + 4 from rfl, stN_add, ← nib (v ^^^ c), ← nib]

theorem poly_top : poly.getLsbD 31 = true := by decide

theorem xor_eq_zero {a b : W32} (h : a ^^^ b = 0#32) : a = b := by
  have : a ^^^ b ^^^ b = 0#32 ^^^ b := by rw [h]
  rwa [BitVec.xor_assoc, BitVec.xor_self, BitVec.xor_zero, BitVec.zero_xor] at this

theorem crc_append (v : W32) (l m : List Int) : crc v (l ++ m) = crc (crc v l) m := by simp [crc, List.foldl_append]
theorem not_inj {a b : W32} (h : ~~~a = ~~~b) : a = b := by
  have : ~~~(~~~a) = ~~~(~~~b) := by rw [h]
  simpa using this
theorem sum_inj {l m : List Int} (h : sum l = sum m) : crc (BitVec.allOnes 32) l = crc (BitVec.allOnes 32) m := by
  unfold sum at h
  have h1 : (~~~ (crc (BitVec.allOnes 32) l)).toNat = (~~~ (crc (BitVec.allOnes 32) m)).toNat := by omega
  exact not_inj (BitVec.eq_of_toNat_eq h1)

theorem byte_inj {c c' : Int} (h0 : 0 ≤ c) (h1 : c ≤ 255) (h0' : 0 ≤ c') (h1' : c' ≤ 255) (h : BitVec.ofInt 32 c = BitVec.ofInt 32 c') : c = c' := by
  have := congrArg BitVec.toNat h
  simp only [BitVec.toNat_ofInt] at this
  omega

theorem st1_back {d : W32} {k : Nat} (hk : k ≤ 31) (h : ∀ i, k ≤ i → (st1 d).getLsbD i = false) : d.getLsbD 0 = false ∧ (∀ i, k + 1 ≤ i → d.getLsbD i = false) := by
  cases hd : d.getLsbD 0 with
  | true =>
    have := h 31 hk
    unfold st1 at this
    rw [hd, if_pos rfl] at this
    simp only [BitVec.getLsbD_xor, BitVec.getLsbD_ushiftRight, poly_top] at this
    rw [BitVec.getLsbD_of_ge d (1 + 31) (by omega)] at this
    simp at this
  | false =>
    refine ⟨rfl, fun i hi => ?_⟩
    have := h (i - 1) (by omega)
    rw [st1_even d hd, BitVec.getLsbD_ushiftRight] at this
    rwa [show 1 + (i - 1) = i from by omega] at this

theorem stN_back : ∀ (n k : Nat) (d : W32), k + n ≤ 32 → (∀ i, k ≤ i → (stN n d).getLsbD i = false) → (∀ i, i < n → d.getLsbD i = false) ∧ (∀ i, k + n ≤ i → d.getLsbD i = false)
  | 0, _, _, _, h => ⟨fun _ hi => by omega, h⟩
  | n + 1, k, d, hk, h => by
    simp only [stN] at h
    obtain ⟨a, b⟩ := stN_back n k (st1 d) (by omega) h
    obtain ⟨c, e⟩ := st1_back (d := d) (k := k + n) (by omega) b
    refine ⟨fun i hi => ?_, fun i hi => e i (by omega)⟩
    cases i with
    | zero => exact c
    | succ i =>
      have := a i (by omega)
      rw [st1_even d c, BitVec.getLsbD_ushiftRight, Nat.add_comm] at this
      exact this

theorem zero_of {d : W32} {k : Nat} (a : ∀ i, i < k → d.getLsbD i = false) (b : ∀ i, k ≤ i → d.getLsbD i = false) : d = 0#32 := by
  apply BitVec.eq_of_getLsbD_eq
  intro i _
  rcases Nat.lt_or_ge i k with h | h
  · rw [a i h]; simp
  · rw [b i h]; simp

theorem byte_high {c : Int} (h0 : 0 ≤ c) (h1 : c ≤ 255) (i : Nat) (hi : 8 ≤ i) : (BitVec.ofInt 32 c).getLsbD i = false := by
  obtain ⟨n, rfl⟩ := Int.eq_ofNat_of_zero_le h0
  rw [BitVec.ofInt_natCast, BitVec.getLsbD_ofNat, Nat.testBit_lt_two_pow (Nat.lt_of_lt_of_le (by omega : n < 2 ^ 8) (Nat.pow_le_pow_right (by decide) hi))]
  simp

def Byte (c : Int) : Prop := 0 ≤ c ∧ c ≤ 255

theorem tail_back : ∀ (l m : List Int) (v v' : W32), l.length = m.length → l.length ≤ 4 → (∀ c ∈ l, Byte c) → (∀ c ∈ m, Byte c) → crc v l = crc v' m →
    (∀ i, 8 * l.length ≤ i → (v ^^^ v').getLsbD i = false) ∧ (v = v' → l = m)
  | [], [], v, v', _, _, _, _, h => ⟨fun i _ => by
      have : v = v' := h
      subst this; rw [BitVec.xor_self]; simp, fun _ => rfl⟩
  | [], _ :: _, _, _, h, _, _, _, _ => by simp at h
  | _ :: _, [], _, _, h, _, _, _, _ => by simp at h
  | c :: l, c' :: m, v, v', hl, h4, hb, hb', h => by
    simp only [List.length_cons] at hl h4 ⊢
    have hc := hb c (by simp)
    have hc' := hb' c' (by simp)
    obtain ⟨a, b⟩ := tail_back l m _ _ (by omega) (by omega) (fun x hx => hb x (by simp [hx])) (fun x hx => hb' x (by simp [hx])) h
    have e : upd v (BitVec.ofInt 32 c) ^^^ upd v' (BitVec.ofInt 32 c') = stN 8 ((v ^^^ v') ^^^ (BitVec.ofInt 32 c ^^^ BitVec.ofInt 32 c')) := by
      unfold upd
      rw [← stN_xor]
      congr 1
      rw [BitVec.xor_assoc, BitVec.xor_assoc, ← BitVec.xor_assoc (BitVec.ofInt 32 c), BitVec.xor_comm (BitVec.ofInt 32 c) v', BitVec.xor_assoc v']
    rw [e] at a
    obtain ⟨lo, hi⟩ := stN_back 8 (8 * l.length) _ (by omega) a
    refine ⟨fun i hi' => ?_, fun hv => ?_⟩
    · have := hi i (by omega)
      rw [BitVec.getLsbD_xor, BitVec.getLsbD_xor (x := BitVec.ofInt 32 c), byte_high hc.1 hc.2 i (by omega), byte_high hc'.1 hc'.2 i (by omega)] at this
      simpa using this
    · subst hv
      rw [BitVec.xor_self, BitVec.zero_xor] at lo hi
      have z := zero_of (k := 8) lo fun i hi' => by rw [BitVec.getLsbD_xor, byte_high hc.1 hc.2 i hi', byte_high hc'.1 hc'.2 i hi']; rfl
      have hcc := byte_inj hc.1 hc.2 hc'.1 hc'.2 (xor_eq_zero z)
      subst hcc
      rw [b rfl]

theorem sum_tail {p l m : List Int} (hl : l.length = m.length) (h4 : l.length ≤ 4) (hb : ∀ c ∈ l, Byte c) (hb' : ∀ c ∈ m, Byte c) (h : sum (p ++ l) = sum (p ++ m)) : l = m := by
  have e := sum_inj h
  rw [crc_append, crc_append] at e
  exact (tail_back l m _ _ hl h4 hb hb' e).2 rfl

theorem sum_bound (l : List Int) : 0 ≤ sum l ∧ sum l < 4294967296 := by
  unfold sum
  have := (~~~ (crc (BitVec.allOnes 32) l)).isLt
  omega

theorem xor_u32 (x y : Int) : Go.bits .xor .u32 x y = ((BitVec.ofInt 32 x ^^^ BitVec.ofInt 32 y).toNat : Int) := by
  show IntKind.u32.wrap ((BitVec.ofInt 32 x ^^^ BitVec.ofInt 32 y).toNat : Int) = _
  have := (BitVec.ofInt 32 x ^^^ BitVec.ofInt 32 y).isLt
  generalize (BitVec.ofInt 32 x ^^^ BitVec.ofInt 32 y).toNat = n at *
  simp [IntKind.wrap, IntKind.bits, IntKind.signed]
  omega
theorem and_u32 (x y : Int) : Go.bits .and .u32 x y = ((BitVec.ofInt 32 x &&& BitVec.ofInt 32 y).toNat : Int) := by
  show IntKind.u32.wrap ((BitVec.ofInt 32 x &&& BitVec.ofInt 32 y).toNat : Int) = _
  have := (BitVec.ofInt 32 x &&& BitVec.ofInt 32 y).isLt
  generalize (BitVec.ofInt 32 x &&& BitVec.ofInt 32 y).toNat = n at *
  simp [IntKind.wrap, IntKind.bits, IntKind.signed]
  omega
theorem ofInt_toNat (v : W32) : BitVec.ofInt 32 (v.toNat : Int) = v := by simp
theorem ofInt_div (v : W32) (n : Nat) : BitVec.ofInt 32 ((v.toNat : Int) / 2 ^ n) = v >>> n := by
  apply BitVec.eq_of_toNat_eq
  rw [BitVec.toNat_ushiftRight, Nat.shiftRight_eq_div_pow, show ((v.toNat : Int) / 2 ^ n) = ((v.toNat / 2 ^ n : Nat) : Int) by push_cast; rfl, BitVec.ofInt_natCast, BitVec.toNat_ofNat]
  exact Nat.mod_eq_of_lt (Nat.lt_of_le_of_lt (Nat.div_le_self _ _) v.isLt)
theorem ofInt_mod (c : Int) : BitVec.ofInt 32 (c % 4294967296) = BitVec.ofInt 32 c := by
  apply BitVec.eq_of_toNat_eq
  simp only [BitVec.toNat_ofInt]
  congr 1
  omega

end Go.Proofs.Ytnaddmkaakdhoaa.Crc

end
section
namespace Go.Proofs.Ytnaddmkaakdhoaa.J
open Go.RowKit Go.Proofs.YtnaddmkaakdhoaaW.PrintWords Go.Proofs.YtnaddmkaakdhoaaW.PrintLast Go.Proofs.YtnaddmkaakdhoaaW.PrintMore
set_option linter.unusedVariables false
set_option linter.unusedSimpArgs false
open Crc (W32 stN st1 upd crc)

theorem and1 (v : W32) : Go.bits .and .u32 (v.toNat : Int) 1 = 1 ↔ v.getLsbD 0 = true := by
  rw [Crc.and_u32, Crc.ofInt_toNat]
  have e : (v &&& BitVec.ofInt 32 1).toNat = v.toNat % 2 := by
    rw [BitVec.toNat_and, show (BitVec.ofInt 32 1).toNat = 2 ^ 1 - 1 from rfl, Nat.and_two_pow_sub_one_eq_mod]
  rw [e, BitVec.getLsbD, Nat.testBit_zero]
  simp
  omega

theorem step_one (v : W32) : (if Go.bits .and .u32 (v.toNat : Int) 1 = 1 then Go.bits .xor .u32 ((v.toNat : Int) / 2) 2197175160 else (v.toNat : Int) / 2) = ((st1 v).toNat : Int) := by
  have e : (v.toNat : Int) / (2 : Int) = ((v >>> 1).toNat : Int) := by
    rw [BitVec.toNat_ushiftRight, Nat.shiftRight_eq_div_pow]
    simp
  unfold st1
  by_cases h : v.getLsbD 0 = true
  · rw [if_pos ((and1 v).2 h), if_pos h, Crc.xor_u32, e, Crc.ofInt_toNat]; rfl
  · rw [if_neg (fun x => h ((and1 v).1 x)), if_neg h, e]

theorem step_l0 (n : Nat) (hn : n ≤ 32) : ∀ (d : Nat) (v : W32) (i k : Nat), i ≤ n → n - i = d → d < k → checksum_step.l0 k (v.toNat : Int) (n : Int) (i : Int) = some ((stN d v).toNat : Int)
  | 0, v, i, k, hi, hd, hk => by
    obtain ⟨k, rfl⟩ : ∃ m, k = m + 1 := ⟨k - 1, by omega⟩
    simp only [checksum_step.l0]
    rw [if_neg (by omega)]
    rfl
  | d + 1, v, i, k, hi, hd, hk => by
    obtain ⟨k, rfl⟩ : ∃ m, k = m + 1 := ⟨k - 1, by omega⟩
    have ih := step_l0 n hn d (st1 v) (i + 1) k (by omega) (by omega) (by omega)
    simp only [checksum_step.l0]
    rw [if_pos (by omega), show wrap64 ((i : Int) + 1) = ((i + 1 : Nat) : Int) by unfold wrap64; omega]
    have s := step_one v
    by_cases h : Go.bits .and .u32 (v.toNat : Int) 1 = 1
    · rw [if_pos h] at s ⊢
      rw [s]; exact ih
    · rw [if_neg h] at s ⊢
      rw [s]; exact ih

theorem step4_calls (x : Int) (h0 : 0 ≤ x) (h1 : x < 4294967296) (w : World) : Calls Try.prog 102 #[.int .u32 x, .int .i64 4] w fun e w' => e = .returned (.int .u32 ((stN 4 (BitVec.ofInt 32 x)).toNat : Int)) ∧ Drawn0 w w' := by
  have e : ((BitVec.ofInt 32 x).toNat : Int) = x := by rw [BitVec.toNat_ofInt]; omega
  exact checksum_step.calls 5 x 4 _ w (by unfold checksum_step.f; have := step_l0 4 (by omega) 4 (BitVec.ofInt 32 x) 0 5 (by omega) (by omega) (by omega); rw [e] at this; exact this)

def tab (k : Nat) : Array Value := Array.ofFn fun j : Fin 16 => .int .u32 (if j.val < k then ((stN 4 (BitVec.ofInt 32 (j.val : Int))).toNat : Int) else 0)
theorem tab_at (k j : Nat) (hj : j < 16) : (tab k)[j]? = some (.int .u32 (if j < k then ((stN 4 (BitVec.ofInt 32 (j : Int))).toNat : Int) else 0)) := by
  unfold tab
  rw [Array.getElem?_ofFn]
  simp [hj]
theorem tab_size (k : Nat) : (tab k).size = 16 := by simp [tab]
theorem tab_set (k : Nat) (hk : k < 16) : (tab k).setIfInBounds k (.int .u32 ((stN 4 (BitVec.ofInt 32 (k : Int))).toNat : Int)) = tab (k + 1) := by
  apply Array.ext
  · simp [tab]
  · intro i h1 h2
    rw [Array.size_setIfInBounds, tab_size] at h1
    apply Option.some.inj
    rw [← Array.getElem?_eq_getElem, ← Array.getElem?_eq_getElem, Array.getElem?_setIfInBounds, tab_at (k + 1) i h1, tab_size]
    by_cases h : k = i
    · subst h; simp [hk]
    · rw [if_neg h, tab_at k i h1]
      by_cases h' : i < k
      · simp [h', Nat.lt_succ_of_lt h']
      · simp [h', show ¬ i < k + 1 by omega]
theorem tab_zero : tab 0 = Array.replicate 16 (.int .u32 0) := by
  apply Array.ext
  · simp [tab]
  · intro i h1 h2
    simp [tab]

theorem idx_ok (y : Int) : 0 ≤ Go.bits .and .u32 y 15 ∧ Go.bits .and .u32 y 15 < 16 := by
  rw [Crc.and_u32]
  have e : (BitVec.ofInt 32 y &&& BitVec.ofInt 32 15).toNat = (BitVec.ofInt 32 y).toNat % 16 := by
    rw [BitVec.toNat_and, show (BitVec.ofInt 32 15).toNat = 2 ^ 4 - 1 from rfl, Nat.and_two_pow_sub_one_eq_mod]
  rw [e]
  omega
theorem tab_read {W : World} {B : Nat} (h : W.heap[B]? = some (.cells (tab 16) 133 (0, 0))) (y : Int) : W.cell? ⟨B, (Go.bits .and .u32 y 15).toNat, none⟩ = some (.int .u32 ((stN 4 (BitVec.ofInt 32 y &&& 15#32)).toNat : Int)) := by
  obtain ⟨a, b⟩ := idx_ok y
  have c : (Go.bits .and .u32 y 15).toNat < 16 := by omega
  rw [blk_cell h, tab_at 16 _ c, if_pos c]
  have e : BitVec.ofInt 32 (((Go.bits .and .u32 y 15).toNat : Nat) : Int) = BitVec.ofInt 32 y &&& 15#32 := by
    rw [Int.toNat_of_nonneg a, Crc.and_u32, Crc.ofInt_toNat]; rfl
  rw [e]

theorem take_one (l : List Int) (n : Nat) (h : n < l.length) : l.take (n + 1) = l.take n ++ [rd l n] := by
  rw [List.take_succ_eq_append_getElem h]
  simp [rd, h]
theorem round_eq (V : W32) (c : Int) : Go.bits .xor .u32 (Go.bits .xor .u32 (Go.bits .xor .u32 (V.toNat : Int) (c % 4294967296) / 16) ((stN 4 (BitVec.ofInt 32 (Go.bits .xor .u32 (V.toNat : Int) (c % 4294967296)) &&& 15#32)).toNat : Int) / 16) ((stN 4 (BitVec.ofInt 32 (Go.bits .xor .u32 (Go.bits .xor .u32 (V.toNat : Int) (c % 4294967296) / 16) ((stN 4 (BitVec.ofInt 32 (Go.bits .xor .u32 (V.toNat : Int) (c % 4294967296)) &&& 15#32)).toNat : Int)) &&& 15#32)).toNat : Int) = ((upd V (BitVec.ofInt 32 c)).toNat : Int) := by
  have d : ∀ U : W32, (BitVec.ofInt 32 ((U.toNat : Int) / 16)) = U >>> 4 := fun U => Crc.ofInt_div U 4
  simp only [Crc.xor_u32, Crc.ofInt_toNat, Crc.ofInt_mod, d]
  rw [← Crc.upd_nib]

def checksum_Sum.f (l0 : List Int) : Option Int := some (Crc.sum l0)

set_option maxHeartbeats 8000000 in
set_option maxRecDepth 100000 in
theorem checksum_Sum.calls (A0 : Option Addr) (c0 : Nat) (l0 : List Int) (r : Int) (w : World) (hr0 : Kd.C (Kd.int .u8) w A0 l0.length l0) (hc0 : l0.length ≤ c0) (h : checksum_Sum.f l0 = some r) :
    Calls Try.prog 80 #[.slice A0 l0.length c0] w fun e w' => e = .returned (.int .u32 r) ∧ Below w.heap.size w w' := by
  have HR := Aside0.mk hr0
  unfold checksum_Sum.f at h
  have hlen : l0.length ≤ 9223372036854775807 := HR.out.2.1
  have HH := Aside0.mk h
  clear hr0 h
  go_enter Try.func80, Try.ntmps80
  go_wp2
  have hT : ((w.alloc (.cells #[.int .u32 0, .int .u32 0, .int .u32 0, .int .u32 0, .int .u32 0, .int .u32 0, .int .u32 0, .int .u32 0, .int .u32 0, .int .u32 0, .int .u32 0, .int .u32 0, .int .u32 0, .int .u32 0, .int .u32 0, .int .u32 0] 133)).heap[w.heap.size]? = some (.cells (tab 0) 133 (0, 0))) := by
    rw [tab_zero]; exact blk_new w _
  have hB0 := (Below.refl _ w).alloc (Nat.le_refl _) (.cells #[.int .u32 0, .int .u32 0, .int .u32 0, .int .u32 0, .int .u32 0, .int .u32 0, .int .u32 0, .int .u32 0, .int .u32 0, .int .u32 0, .int .u32 0, .int .u32 0, .int .u32 0, .int .u32 0, .int .u32 0, .int .u32 0] 133)
  have HT := Aside0.mk hT
  have HB := Aside0.mk hB0
  clear hT hB0
  go_loopw [8] (fun i wr => ∃ k : Nat, k ≤ 16 ∧ i = .int .i64 k ∧ Aside0 (wr.heap[w.heap.size]? = some (.cells (tab k) 133 (0, 0))) ∧ Aside0 (Below w.heap.size w wr)) (fun i _ => 16 - (intOf i).toNat)
  case atStart => exact ⟨0, by omega, rfl, HT, HB⟩
  case round =>
    clear HT HB
    obtain ⟨k, hk, rfl, ht, hb⟩ := hrel
    by_cases hlt : k < 16
    · have hcell := (blk_cell ht.out k).trans (tab_at k k hlt)
      have hfr := blk_frozen ht.out k
      go_wp2_with fail
      refine (step4_calls _ (by omega) (by omega) _).mono ?_
      rintro e w' ⟨rfl, ⟨m1, rfl⟩⟩
      go_wp2
      go_roundw
      case rel => exact ⟨k + 1, by omega, by go_num, ⟨by rw [← tab_set k hlt]; exact blk_set (blk_drewN ht.out m1) k _⟩, ⟨(pw_below_drewN hb.out m1).setCell (Nat.le_refl _) _⟩⟩
      case measure => simp [intOf]; omega
    · obtain rfl : k = 16 := by omega
      go_wp2
      have HT := ht
      have HB := hb
      clear ht hb
      go_loopw [5, 19] (fun v i wq => ∃ (x : Int) (V : W32), 0 ≤ x ∧ x ≤ l0.length ∧ i = .int .i64 x ∧ v = .int .u32 (V.toNat : Int) ∧ Aside0 (V = crc (BitVec.allOnes 32) (l0.take x.toNat)) ∧ Aside0 (wq.heap[w.heap.size]? = some (.cells (tab 16) 133 (0, 0))) ∧ Aside0 (Below w.heap.size w wq)) (fun _ i _ => l0.length - (intOf i).toNat)
      case atStart => exact ⟨0, BitVec.allOnes 32, by omega, by omega, rfl, rfl, ⟨rfl⟩, HT, HB⟩
      case round =>
        clear HT HB
        obtain ⟨x, V, h0, hk, rfl, rfl, hV, ht, hb⟩ := hrel
        by_cases hlt : x < l0.length
        · obtain ⟨ad, ea, hx⟩ := Kd.at_int (HR.out) x h0 hlt
          cases ea
          have hx' := (hb.out.cell (World.block_lt_of_cell? w _ hx)).trans hx
          clear hx
          obtain ⟨f1a, f1b⟩ := idx_ok (Go.bits .xor .u32 (V.toNat : Int) (rd l0 x % 4294967296))
          have g1 := tab_read ht.out (Go.bits .xor .u32 (V.toNat : Int) (rd l0 x % 4294967296))
          obtain ⟨f2a, f2b⟩ := idx_ok (Go.bits .xor .u32 (Go.bits .xor .u32 (V.toNat : Int) (rd l0 x % 4294967296) / 16) ((stN 4 (BitVec.ofInt 32 (Go.bits .xor .u32 (V.toNat : Int) (rd l0 x % 4294967296)) &&& 15#32)).toNat : Int))
          have g2 := tab_read ht.out (Go.bits .xor .u32 (Go.bits .xor .u32 (V.toNat : Int) (rd l0 x % 4294967296) / 16) ((stN 4 (BitVec.ofInt 32 (Go.bits .xor .u32 (V.toNat : Int) (rd l0 x % 4294967296)) &&& 15#32)).toNat : Int))
          go_wp2
          clear g1 g2 f1a f1b f2a f2b
          go_roundw
          case rel =>
            refine ⟨x + 1, upd V (BitVec.ofInt 32 (rd l0 x)), by omega, by omega, rfl, ?_, ⟨?_⟩, ht, hb⟩
            · rw [round_eq]
            · rw [hV.out, show (x + 1).toNat = x.toNat + 1 by omega, take_one l0 x.toNat (by omega), Crc.crc_append]; rfl
          case measure => simp [intOf]; omega
        · have H := HH.out
          clear HH
          obtain rfl : x = l0.length := by omega
          have E : r = Go.bits .xor .u32 4294967295 (V.toNat : Int) := by
            have := Option.some.inj H
            rw [← this, Crc.xor_u32, Crc.ofInt_toNat, hV.out]
            unfold Crc.sum
            rw [show BitVec.ofInt 32 4294967295 = BitVec.allOnes 32 from rfl, BitVec.allOnes_xor, show ((l0.length : Int)).toNat = l0.length from rfl, List.take_length]
          subst E
          clear H
          go_wp2
          go_ret
          exact ⟨rfl, hb.out⟩
theorem checksum_Sum.calls_n (A0 : Option Addr) (n c0 : Nat) (l0 : List Int) (hn : l0.length = n) (w : World) (hr0 : Kd.C (Kd.int .u8) w A0 n l0) (hc0 : n ≤ c0) :
    Calls Try.prog 80 #[.slice A0 n c0] w fun e w' => e = .returned (.int .u32 (Crc.sum l0)) ∧ Below w.heap.size w w' := by
  subst hn
  exact checksum_Sum.calls A0 c0 l0 _ w hr0 hc0 rfl
end Go.Proofs.Ytnaddmkaakdhoaa.J

end
section
namespace Go.Proofs.Ytnaddmkaakdhoaa.J
open Go.RowKit Go.Proofs.YtnaddmkaakdhoaaW.PrintWords Go.Proofs.YtnaddmkaakdhoaaW.PrintLast Go.Proofs.YtnaddmkaakdhoaaW.PrintMore
set_option linter.unusedVariables false
set_option linter.unusedSimpArgs false

def journal_sum.f (a0 : ByteArray) : Option Int := if a0.size ≤ 140737488355328 then some (Crc.sum (bytesOf a0)) else none

set_option maxHeartbeats 8000000 in
set_option maxRecDepth 100000 in
theorem journal_sum.calls (a0 : ByteArray) (r : Int) (w : World) (h : journal_sum.f a0 = some r) :
    Calls Try.prog 53 #[.string a0] w fun e w' => e = .returned (.int .u32 r) ∧ Below w.heap.size w w' := by
  unfold journal_sum.f at h
  obtain ⟨hlen, h⟩ : a0.size ≤ 140737488355328 ∧ some (Crc.sum (bytesOf a0)) = some r := by
    split at h
    · exact ⟨‹_›, h⟩
    · cases h
  have HH := Aside0.mk h
  clear h
  have hc := print_bytes (P := Try.prog) 9 39 5 Try.underlying9 Try.underlying39 Try.underlying5 a0 w
  go_enter Try.func53, Try.ntmps53
  go_wp2_with fail
  refine (checksum_Sum.calls_n _ _ _ (bytesOf a0) (bytesOf_length a0) _ (Kd.C_of_reads (d := (0 : Int)) (h1 := fun _ => rfl) (bytes_reads w 5 a0 (by omega))) ?_).mono ?_
  · exact grownCap_ge _ _ _ _
  rintro e w1 ⟨rfl, hb⟩
  have hb' := hb
  have hB := bytes_below (Below.refl w.heap.size w) (Nat.le_refl _) 5 a0
  obtain rfl := Option.some.inj HH.out
  go_wp2
  go_ret
  exact ⟨rfl, below_then hB hB.size hb'⟩
end Go.Proofs.Ytnaddmkaakdhoaa.J

end
section
namespace Go.Proofs.Ytnaddmkaakdhoaa.J
open Go.RowKit Go.Proofs.YtnaddmkaakdhoaaW.PrintWords Go.Proofs.YtnaddmkaakdhoaaW.PrintLast Go.Proofs.YtnaddmkaakdhoaaW.PrintMore
attribute [local go_sem] max2_int min2_int max_two min_two max_three min_three max_four min_four   -- for this text's walks alone
set_option linter.unusedVariables false
set_option linter.unusedSimpArgs false

def journal_Encode.j0 : Nat → Bool → Int → ByteArray → Option (ByteArray × Int)
  | 0, _, _, _ => none
  | k + 1, x12, x102000, x102001 => if x12 = true then (some ((⟨#[]⟩ : ByteArray), 1)) else (if (x102001.size : Int) > 1048576 then (some ((⟨#[]⟩ : ByteArray), 2)) else ((some (([(x102000) % 256] : List Int) : List Int)).bind fun y102 => (if (strOfNums y102).size + x102001.size ≤ 9223372036854775807 then ((journal_put.f ([] : List Int) (((x102001.size : Int)) % 4294967296)).bind fun t105 => ((journal_sum.f ((strOfNums y102) ++ x102001)).bind fun t108 => ((journal_put.f t105 t108).bind fun t109 => (if (strOfNums t109).size + ((strOfNums y102) ++ x102001).size ≤ 9223372036854775807 then (some ((strOfNums t109) ++ ((strOfNums y102) ++ x102001), 0)) else (none))))) else (none))))
def journal_Encode.f (k : Nat) (a0_0 : Int) (a0_1 : ByteArray) : Option (ByteArray × Int) := if a0_0 = 1 then (journal_Encode.j0 k false a0_0 a0_1) else (journal_Encode.j0 k (a0_0 != 2) a0_0 a0_1)
theorem journal_Encode.mono_l : ∀ k, (∀ y0 y1 y2, LeO (journal_Encode.j0 k y0 y1 y2) (journal_Encode.j0 (k + 1) y0 y1 y2))
  | 0 => fun _ _ _ r h => by simp [journal_Encode.j0] at h
  | k + 1 => by
    have ih0 := journal_Encode.mono_l k
    · intro y0 y1 y2
      unfold journal_Encode.j0
      repeat' first
      | (with_reducible exact ih0 _ _ _)
      | (with_reducible exact LeO.refl _)
      | (with_reducible exact LeO.none _)
      | (with_reducible refine LeO.ite ?_ ?_)
      | (with_reducible refine LeO.bind ?_ (fun _ => ?_))
      | exact ih0 _ _ _
      | exact LeO.none _
      | refine LeO.ite ?_ ?_
      | refine LeO.bind ?_ (fun _ => ?_)
theorem journal_Encode.mono : ∀ a0 a1 k, LeO (journal_Encode.f k a0 a1) (journal_Encode.f (k + 1) a0 a1) := by
  intro a0 a1 k
  have ih0 := journal_Encode.mono_l k
  unfold journal_Encode.f
  repeat' first
      | (with_reducible exact ih0 _ _ _)
      | (with_reducible exact LeO.refl _)
      | (with_reducible exact LeO.none _)
      | (with_reducible refine LeO.ite ?_ ?_)
      | (with_reducible refine LeO.bind ?_ (fun _ => ?_))
      | exact ih0 _ _ _
      | exact LeO.none _
      | refine LeO.ite ?_ ?_
      | refine LeO.bind ?_ (fun _ => ?_)
set_option maxHeartbeats 8000000 in
set_option maxRecDepth 100000 in
theorem journal_Encode.calls (k : Nat) (a0_0 : Int) (a0_1 : ByteArray) (r1 : ByteArray) (r2 : Int) (w : World) (h : journal_Encode.f k a0_0 a0_1 = some (r1, r2)) :
    Calls Try.prog 29 #[.agg #[.int .i64 a0_0, .string a0_1]] w fun e w' => e = .returned (.tuple #[.string r1, .int .i64 r2]) ∧ Below w.heap.size w w' := by
  have hu37 := Try.underlying37
  have HB := Aside0.mk (Below.refl w.heap.size w)
  have H : (if a0_0 = 1 then (journal_Encode.j0 k false a0_0 a0_1) else (journal_Encode.j0 k (a0_0 != 2) a0_0 a0_1)) = some (r1, r2) := h
  clear h
  have HC2 := Aside0.mk H
  clear H
  go_enter Try.func29, Try.ntmps29
  go_upto_region 1 with (first | ((with_reducible refine gate_dst (N := 1) rfl ?_); refine box_event ?hg (N := 1) ?hd (cs := #[.int .i64 a0_0, .string a0_1]) (t := 37) ?hr ?_; (case hd => rfl); (case hg => rfl); (case hr => first | (go_simp; done) | (go_simp; rfl)); intro gb101 hg w3 hbox hb; have n0_ := Aside0.mk (below_step (by repeat (first | (with_reducible first | exact HB.out | apply below_alloc | apply pw_below_drewN | apply below_drew1) | exact HB.out)) hb); have n1_ := Aside0.mk (hbox); have n2_ := Aside0.mk ((by rw [hg]; exact (below_size (by repeat (first | (with_reducible first | exact HB.out | apply below_alloc | apply pw_below_drewN | apply below_drew1) | exact HB.out))) : w.heap.size ≤ gb101)); have n3_ := Aside0.mk ((by rw [hg]; exact (below_size (by repeat (first | (with_reducible first | exact HB.out | apply below_alloc | apply pw_below_drewN | apply below_drew1) | exact HB.out))) : w.heap.size ≤ gb101)); clear HB; have HB := n0_; have BK101 := n1_; have GW101 := n2_; have GE101 := n3_; clear n0_ n1_ n2_ n3_; clear hb hbox hg))
  (try simp only [Act.put, List.setIfInBounds_toArray, List.set_cons_zero, List.set_cons_succ])
  go_cut [12] (fun v12 wc => ∃ (kq : Nat) (x12_1 : Bool), v12 = .bool x12_1 ∧ Aside0 (journal_Encode.j0 kq x12_1 a0_0 a0_1 = some (r1, r2)) ∧ Aside0 (kq ≤ k) ∧ Aside0 (wc.heap[gb101]? = some (.cells #[.int .i64 a0_0, .string a0_1] 37 (0, 0))) ∧ Aside0 (Below w.heap.size w wc))
  case first =>
    have H := HC2.out
    clear HC2
    by_cases c4 : a0_0 = 1
    · rw [if_pos c4] at H
      have c4b0 : (a0_0 == 1) = true := beq_iff_eq.mpr c4
      have c4b1 : (a0_0 != 1) = false := bne_eq_false_iff_eq.mpr c4
      clear c4
      (first | rw [c4b0] | (simp only [i64_w, i32_w]; rw [c4b0]) | skip)
      have H' := Aside0.mk H
      clear H
      have hcz5_0 : w3.cell? ⟨gb101, 0, none⟩ = some (.int .i64 a0_0) := (blk_cell BK101.out 0).trans rfl
      have hcz5_1 : w3.cell? ⟨gb101, 1, none⟩ = some (.string a0_1) := (blk_cell BK101.out 1).trans rfl
      have hfz5_0 := blk_frozen BK101.out 0
      have hfz5_1 := blk_frozen BK101.out 1
      go_wp2
      go_meet
      case rel => exact ⟨_, (false), (by first | rfl | (simp; done) | (simp [*]; done)), H', ⟨by first | omega | exact Nat.le_refl _⟩, ⟨by (with_reducible repeat (first | refine blk_drewN ?_ _ | refine blk_drew ?_ | refine blk_alloc ?_ _)); exact BK101.out⟩, ⟨by repeat (first | (with_reducible first | exact HB.out | apply below_alloc | apply pw_below_drewN | apply below_drew1 | refine below_set ?_ GE101.out) | exact HB.out)⟩⟩
    · rw [if_neg c4] at H
      have c4b0 : (a0_0 == 1) = false := beq_eq_false_iff_ne.mpr c4
      have c4b1 : (a0_0 != 1) = true := bne_iff_ne.mpr c4
      (first | rw [c4b0] | (simp only [i64_w, i32_w]; rw [c4b0]) | skip)
      have H' := Aside0.mk H
      clear H
      have hcz6_0 : w3.cell? ⟨gb101, 0, none⟩ = some (.int .i64 a0_0) := (blk_cell BK101.out 0).trans rfl
      have hcz6_1 : w3.cell? ⟨gb101, 1, none⟩ = some (.string a0_1) := (blk_cell BK101.out 1).trans rfl
      have hfz6_0 := blk_frozen BK101.out 0
      have hfz6_1 := blk_frozen BK101.out 1
      go_wp2
      go_meet
      case rel => exact ⟨_, ((a0_0 != 2)), (by first | rfl | (simp; done) | (simp [*]; done)), H', ⟨by first | omega | exact Nat.le_refl _⟩, ⟨by (with_reducible repeat (first | refine blk_drewN ?_ _ | refine blk_drew ?_ | refine blk_alloc ?_ _)); exact BK101.out⟩, ⟨by repeat (first | (with_reducible first | exact HB.out | apply below_alloc | apply pw_below_drewN | apply below_drew1 | refine below_set ?_ GE101.out) | exact HB.out)⟩⟩
  case rest =>
    clear HC2
    try clear c2
    try clear p2
    try clear c4
    try clear c4b0
    try clear c4b1
    try clear hcz5_0
    try clear hcz5_1
    try clear hcz6_0
    try clear hcz6_1
    try clear hfz5_0
    try clear hfz5_1
    try clear hfz6_0
    try clear hfz6_1
    obtain ⟨kq, x12_1, rfl, HA, HJ1, BK101, HB⟩ := hcut
    cases kq with
    | zero => exact absurd HA.out (by simp [journal_Encode.j0])
    | succ kj1 =>
      have H := HA.out
      clear HA
      simp only [journal_Encode.j0] at H
      by_cases c7 : x12_1 = true
      · subst c7
        have H1 : (some ((⟨#[]⟩ : ByteArray), 1)) = some (r1, r2) := by rw [if_pos rfl] at H; exact H
        clear H
        have H := H1
        clear H1
        simp only [Option.some.injEq, Prod.mk.injEq] at H
        obtain ⟨rfl, rfl⟩ := H
        go_wp2
        go_ret2
        exact ⟨by first | rfl | (simp [errW_none, errW_some] <;> rfl) | (simp [*, errW_none, errW_some] <;> rfl), by repeat (first | (with_reducible first | exact HB.out | apply below_alloc | apply pw_below_drewN | apply below_drew1 | refine below_set ?_ GE101.out) | exact HB.out)⟩
      · replace c7 := Bool.eq_false_iff.mpr c7
        subst c7
        have H1 : (if (a0_1.size : Int) > 1048576 then (some ((⟨#[]⟩ : ByteArray), 2)) else ((some (([(a0_0) % 256] : List Int) : List Int)).bind fun y102 => (if (strOfNums y102).size + a0_1.size ≤ 9223372036854775807 then ((journal_put.f ([] : List Int) (((a0_1.size : Int)) % 4294967296)).bind fun t105 => ((journal_sum.f ((strOfNums y102) ++ a0_1)).bind fun t108 => ((journal_put.f t105 t108).bind fun t109 => (if (strOfNums t109).size + ((strOfNums y102) ++ a0_1).size ≤ 9223372036854775807 then (some ((strOfNums t109) ++ ((strOfNums y102) ++ a0_1), 0)) else (none))))) else (none)))) = some (r1, r2) := by rw [if_neg (show ¬ (false = true) by decide)] at H; exact H
        clear H
        have H := H1
        clear H1
        by_cases c8 : (a0_1.size : Int) > 1048576
        · rw [if_pos c8] at H
          have c8b0 : decide (1048576 < (a0_1.size : Int)) = true := decide_eq_true c8
          have c8b1 : decide (1048576 < a0_1.size) = true := decide_eq_true (by omega)
          clear c8
          simp only [Option.some.injEq, Prod.mk.injEq] at H
          obtain ⟨rfl, rfl⟩ := H
          have hcz9_0 : wc.cell? ⟨gb101, 0, none⟩ = some (.int .i64 a0_0) := (blk_cell BK101.out 0).trans rfl
          have hcz9_1 : wc.cell? ⟨gb101, 1, none⟩ = some (.string a0_1) := (blk_cell BK101.out 1).trans rfl
          have hfz9_0 := blk_frozen BK101.out 0
          have hfz9_1 := blk_frozen BK101.out 1
          go_wp2
          go_ret2
          exact ⟨by first | rfl | (simp [errW_none, errW_some] <;> rfl) | (simp [*, errW_none, errW_some] <;> rfl), by repeat (first | (with_reducible first | exact HB.out | apply below_alloc | apply pw_below_drewN | apply below_drew1 | refine below_set ?_ GE101.out) | exact HB.out)⟩
        · rw [if_neg c8] at H
          have c8b0 : decide (1048576 < (a0_1.size : Int)) = false := decide_eq_false c8
          have c8b1 : decide (1048576 < a0_1.size) = false := decide_eq_false (by omega)
          clear c8
          obtain ⟨y102, hy102⟩ : ∃ y_ : List Int, y_ = (([(a0_0) % 256] : List Int)) := ⟨_, rfl⟩
          replace H : (if (strOfNums y102).size + a0_1.size ≤ 9223372036854775807 then ((journal_put.f ([] : List Int) (((a0_1.size : Int)) % 4294967296)).bind fun t105 => ((journal_sum.f ((strOfNums y102) ++ a0_1)).bind fun t108 => ((journal_put.f t105 t108).bind fun t109 => (if (strOfNums t109).size + ((strOfNums y102) ++ a0_1).size ≤ 9223372036854775807 then (some ((strOfNums t109) ++ ((strOfNums y102) ++ a0_1), 0)) else (none))))) else (none)) = some (r1, r2) := by first | (rw [hy102]; with_reducible exact H) | (have H2_ := (Option.bind_some _ _).symm.trans H; rw [hy102]; with_reducible exact H2_) | (have H2_ := (Option.bind_some _ _).symm.trans H; with_reducible exact H2_) | with_reducible exact H | (rw [hy102]; exact H) | exact H
          have Ny102 := Aside0.mk hy102
          clear hy102
          by_cases c10 : (strOfNums y102).size + a0_1.size ≤ 9223372036854775807
          · rw [if_pos c10] at H
            have c10b0 := eq_true c10
            have c10b1 : decide ((strOfNums y102).size + a0_1.size ≤ 9223372036854775807) = true := decide_eq_true c10
            try have c10b2 : (9223372036854775807 < (strOfNums y102).size + a0_1.size) = False := eq_false (Nat.not_lt.2 c10)
            replace H := Option.bind_eq_some_iff.mp H
            obtain ⟨t105, A110, H⟩ := H
            replace H : ((journal_sum.f ((strOfNums y102) ++ a0_1)).bind fun t108 => ((journal_put.f t105 t108).bind fun t109 => (if (strOfNums t109).size + ((strOfNums y102) ++ a0_1).size ≤ 9223372036854775807 then (some ((strOfNums t109) ++ ((strOfNums y102) ++ a0_1), 0)) else (none)))) = some (r1, r2) := H
            have A11 := Aside0.mk A110
            clear A110
            replace H := Option.bind_eq_some_iff.mp H
            obtain ⟨t108, A120, H⟩ := H
            replace H : ((journal_put.f t105 t108).bind fun t109 => (if (strOfNums t109).size + ((strOfNums y102) ++ a0_1).size ≤ 9223372036854775807 then (some ((strOfNums t109) ++ ((strOfNums y102) ++ a0_1), 0)) else (none))) = some (r1, r2) := H
            have A12 := Aside0.mk A120
            clear A120
            replace H := Option.bind_eq_some_iff.mp H
            obtain ⟨t109, A130, H⟩ := H
            replace H : (if (strOfNums t109).size + ((strOfNums y102) ++ a0_1).size ≤ 9223372036854775807 then (some ((strOfNums t109) ++ ((strOfNums y102) ++ a0_1), 0)) else (none)) = some (r1, r2) := H
            have A13 := Aside0.mk A130
            clear A130
            by_cases c14 : (strOfNums t109).size + ((strOfNums y102) ++ a0_1).size ≤ 9223372036854775807
            · rw [if_pos c14] at H
              have c14b0 := eq_true c14
              have c14b1 : decide ((strOfNums t109).size + ((strOfNums y102) ++ a0_1).size ≤ 9223372036854775807) = true := decide_eq_true c14
              try have c14b2 : (9223372036854775807 < (strOfNums t109).size + ((strOfNums y102) ++ a0_1).size) = False := eq_false (Nat.not_lt.2 c14)
              try have c14b3 : (9223372036854775807 < (strOfNums t109).size + (strOfNums y102).size + a0_1.size) = False := eq_false (by have z_ := c14; simp only [ByteArray.size_append, ByteArray.size_extract] at z_; first | omega | (simp [ByteArray.size] at *; omega))
              simp only [Option.some.injEq, Prod.mk.injEq] at H
              obtain ⟨rfl, rfl⟩ := H
              have hcz15_0 : wc.cell? ⟨gb101, 0, none⟩ = some (.int .i64 a0_0) := (blk_cell BK101.out 0).trans rfl
              have hcz15_1 : wc.cell? ⟨gb101, 1, none⟩ = some (.string a0_1) := (blk_cell BK101.out 1).trans rfl
              have hfz15_0 := blk_frozen BK101.out 0
              have hfz15_1 := blk_frozen BK101.out 1
              go_wp2_with (first | ((with_reducible refine gate_dst (N := 20) rfl ?_); refine Kd.R_lit (Kd.int .u8) _ 5 ?hg (N := 20) ?hd (xs := ([(a0_0) % 256] : List Int)) (inner := [.int .u8 ((a0_0) % 256)]) (ok := fun _ => True) (okp := fun _ => True) ?hr ?hp (fun _ hk => hk) trivial (Below.refl _ _) (Nat.le_refl _) (by simp) ?_; (case hd => rfl); (case hg => rfl); (case hr => first | (go_simp; done) | (go_simp; rfl)); (case hp => exact (Reps.one (show Kd.M (Kd.int .u8) _ _ _ ((a0_0) % 256) [.int .u8 ((a0_0) % 256)] from rfl) (Reps.none _ _))); intro v103 w16 ho17 hb hg_ hnew_; clear hg_ hnew_; (first | rw [← Ny102.out] at ho17 | (simp only [Int.reduceToNat] at ho17; rw [← Ny102.out] at ho17)); have n0_ := Aside0.mk (Kd.R_lower ho17 (below_size (by repeat (first | (with_reducible first | exact HB.out | apply below_alloc | apply pw_below_drewN | apply below_drew1 | refine below_set ?_ GE101.out) | exact HB.out)))); have n1_ := Aside0.mk (blk_below (g := gb101) (o := .cells #[.int .i64 a0_0, .string a0_1] 37 (0, 0)) (by (with_reducible repeat (first | refine blk_drewN ?_ _ | refine blk_drew ?_ | refine blk_alloc ?_ _)); exact BK101.out) hb); have n2_ := Aside0.mk (below_step (by repeat (first | (with_reducible first | exact HB.out | apply below_alloc | apply pw_below_drewN | apply below_drew1 | refine below_set ?_ GE101.out) | exact HB.out)) hb); clear BK101; clear HB; have HO104 := n0_; have BK101 := n1_; have HB := n2_; clear n0_ n1_ n2_; clear hb ho17; have hcv18 := own_string (P := Try.prog) Try.underlying39 Try.underlying5 Try.underlying9 (Kd.own_of_R HO104.out); have hcz19_0 : w16.cell? ⟨gb101, 0, none⟩ = some (.int .i64 a0_0) := (blk_cell BK101.out 0).trans rfl; have hcz19_1 : w16.cell? ⟨gb101, 1, none⟩ = some (.string a0_1) := (blk_cell BK101.out 1).trans rfl; have hfz19_0 := blk_frozen BK101.out 0; have hfz19_1 := blk_frozen BK101.out 1) | ((with_reducible refine gate_callee (f := 52) rfl ?_); refine goesL_ (some 29) rfl rfl Try.func52 (by kernel_rfl) rfl #[.slice none 0 0, .int .u32 (((a0_1.size : Int)) % 4294967296)] rfl (by (try simp only [List.map_toArray, List.map_cons, List.map_nil]); first | done | rfl | (simp only [List.length_drop, List.length_take]; rfl)) ?_; (refine (journal_put.calls (fun k_ => some k_ = (.slice none 0 0 : Value).ownBlock) (.slice none 0 0) ([] : List Int) (((a0_1.size : Int)) % 4294967296) t105 w _ ?side1 ?side2 A11.out).mono ?_); (case side1 => repeat (first | (with_reducible first | exact HB.out | apply below_alloc | apply pw_below_drewN | apply below_drew1 | refine below_set ?_ GE101.out) | exact HB.out)); (case side2 => exact Kd.R_nil _ _ _ _ _); rintro e w20 ⟨v106, rfl, ho0, hb, hkp⟩; refine ⟨_, rfl, ?_⟩; have n0_ := Aside0.mk (blk_kept (by (with_reducible repeat (first | refine blk_drewN ?_ _ | refine blk_drew ?_ | refine blk_alloc ?_ _)); exact BK101.out) hkp (fun hs_ => (fun e_ => by simp [Value.ownBlock] at e_) hs_)); have n1_ := Aside0.mk (Kd.R_mono (ok' := fun k_ => some k_ ≠ (v106 : Value).ownBlock) (Kd.R_keptB (HO104.out) hkp (fun k_ hk_ hs_ => (fun e_ => by simp [Value.ownBlock] at e_) hs_)) (fun k_ hk_ => fun e_ => Or.elim (ho0.1 k_ e_.symm) (fun hs_ => hk_.2.1 hs_) (fun hn_ => Nat.not_le.2 hk_.2.2 hn_))); have n2_ := Aside0.mk (Kd.R_mono (ok' := fun k_ => some k_ ≠ (v103 : Value).ownBlock) ho0 (fun k_ hk_ => Or.elim hk_ (fun hs_ => absurd hs_ (by simp [Value.ownBlock])) (fun hn_ => (Kd.fresh' (Kd.R_lt (by (with_reducible repeat (first | apply Kd.R_alloc | apply Kd.R_drewN | apply Kd.R_drew)); exact HO104.out)) k_ hn_)))); have n3_ := Aside0.mk (hb); clear BK101; clear HO104; clear HB; have BK101 := n0_; have HO104 := n1_; have HO107 := n2_; have HB := n3_; clear n0_ n1_ n2_ n3_; (try clear hb); (try clear hkp); (try clear ho0)) | ((with_reducible refine gate_callee (f := 53) rfl ?_); refine goesL_ (some 31) rfl rfl Try.func53 (by kernel_rfl) rfl #[.string ((strOfNums y102) ++ a0_1)] rfl (by (try simp only [List.map_toArray, List.map_cons, List.map_nil]); first | done | rfl | (simp only [List.length_drop, List.length_take]; rfl)) ?_; (with_reducible refine (journal_sum.calls ((strOfNums y102) ++ a0_1) t108 _ A12.out).mono ?_); rintro e w21 ⟨rfl, hb⟩; refine ⟨_, rfl, ?_⟩; have n0_ := Aside0.mk (Kd.R_below (by (with_reducible repeat (first | apply Kd.R_alloc | apply Kd.R_drewN | apply Kd.R_drew)); exact HO104.out) hb); have n1_ := Aside0.mk (Kd.R_below (by (with_reducible repeat (first | apply Kd.R_alloc | apply Kd.R_drewN | apply Kd.R_drew)); exact HO107.out) hb); have n2_ := Aside0.mk (blk_below (g := gb101) (o := .cells #[.int .i64 a0_0, .string a0_1] 37 (0, 0)) (by (with_reducible repeat (first | refine blk_drewN ?_ _ | refine blk_drew ?_ | refine blk_alloc ?_ _)); exact BK101.out) hb); have n3_ := Aside0.mk (below_step (by repeat (first | (with_reducible first | exact HB.out | apply below_alloc | apply pw_below_drewN | apply below_drew1 | refine below_set ?_ GE101.out) | exact HB.out)) hb); clear HO104; clear HO107; clear BK101; clear HB; have HO104 := n0_; have HO107 := n1_; have BK101 := n2_; have HB := n3_; clear n0_ n1_ n2_ n3_; (try clear hb); (try clear hb2); (try clear hk); (try clear hi); obtain ⟨Ao22, co22, eo22⟩ := Kd.R_slice HO107.out; subst eo22) | ((with_reducible refine gate_callee (f := 52) rfl ?_); refine goesL_ (some 32) rfl rfl Try.func52 (by kernel_rfl) rfl #[.slice Ao22 t105.length co22, .int .u32 t108] rfl (by (try simp only [List.map_toArray, List.map_cons, List.map_nil]); first | done | rfl | (simp only [List.length_drop, List.length_take]; rfl)) ?_; (with_reducible refine (journal_put.calls (fun k_ => some k_ = (.slice Ao22 t105.length co22 : Value).ownBlock) (.slice Ao22 t105.length co22) t105 t108 t109 w _ ?side1 ?side2 A13.out).mono ?_); (case side1 => repeat (first | (with_reducible first | exact HB.out | apply below_alloc | apply pw_below_drewN | apply below_drew1 | refine below_set ?_ GE101.out) | exact HB.out)); (case side2 => exact Kd.R_tight rfl HO107.out); rintro e w23 ⟨v110, rfl, ho0, hb, hkp⟩; refine ⟨_, rfl, ?_⟩; have n0_ := Aside0.mk (blk_kept (by (with_reducible repeat (first | refine blk_drewN ?_ _ | refine blk_drew ?_ | refine blk_alloc ?_ _)); exact BK101.out) hkp (fun hs_ => (fun e_ => (Kd.R_ne HO107.out BK101.out (by decide)) e_) hs_)); have n1_ := Aside0.mk (Kd.R_mono (ok' := fun k_ => some k_ ≠ (v110 : Value).ownBlock) (Kd.R_keptB (HO104.out) hkp (fun k_ hk_ hs_ => (hk_) hs_)) (fun k_ hk_ => fun e_ => Or.elim (ho0.1 k_ e_.symm) (fun hs_ => hk_.2.1 hs_) (fun hn_ => Nat.not_le.2 hk_.2.2 hn_))); have n2_ := Aside0.mk (Kd.R_mono (ok' := fun k_ => some k_ ≠ (v103 : Value).ownBlock) ho0 (fun k_ hk_ => Or.elim hk_ (fun hs_ => fun e_ => (((HO104.out).1 k_ e_.symm)) hs_) (fun hn_ => (Kd.fresh' (Kd.R_lt (by (with_reducible repeat (first | apply Kd.R_alloc | apply Kd.R_drewN | apply Kd.R_drew)); exact HO104.out)) k_ hn_)))); have n3_ := Aside0.mk (hb); clear BK101; clear HO104; clear HB; clear HO107; have BK101 := n0_; have HO104 := n1_; have HO111 := n2_; have HB := n3_; clear n0_ n1_ n2_ n3_; (try clear hb); (try clear hkp); (try clear ho0); have hcv24 := own_string (P := Try.prog) Try.underlying39 Try.underlying5 Try.underlying9 (Kd.own_of_R HO111.out)))
              go_ret2
              exact ⟨by first | rfl | (simp [errW_none, errW_some] <;> rfl) | (simp [*, errW_none, errW_some] <;> rfl), by repeat (first | (with_reducible first | exact HB.out | apply below_alloc | apply pw_below_drewN | apply below_drew1 | refine below_set ?_ GE101.out) | exact HB.out)⟩
            · rw [if_neg c14] at H
              exact absurd H (by simp)
          · rw [if_neg c10] at H
            exact absurd H (by simp)

def journal_EncodeAll.l0 : Nat → List Int → List (S37) → Int → Int → Option (ByteArray × Int)
  | 0, _, _, _, _ => none
  | k + 1, x4, x9, x10, x11 => if x11 < x10 then (if 0 ≤ x11 then (if x11 < (x9.length : Int) then ((journal_Encode.f k ((rd_T37 x9 x11).f0) ((rd_T37 x9 x11).f1)).bind fun bt103 => (if bt103.2 = 0 then (if x4.length + bt103.1.size < 140737488355328 then (journal_EncodeAll.l0 k (x4 ++ bytesOf bt103.1) x9 x10 (wrap64 (x11 + 1))) else (none)) else (some ((⟨#[]⟩ : ByteArray), bt103.2)))) else (none)) else (none)) else (some (strOfNums x4, 0))
def journal_EncodeAll.f (k : Nat) (l0 : List (S37)) : Option (ByteArray × Int) := journal_EncodeAll.l0 k ([] : List Int) l0 (l0.length : Int) 0
theorem journal_EncodeAll.mono_l : ∀ k, (∀ y0 y1 y2 y3, LeO (journal_EncodeAll.l0 k y0 y1 y2 y3) (journal_EncodeAll.l0 (k + 1) y0 y1 y2 y3))
  | 0 => fun _ _ _ _ r h => by simp [journal_EncodeAll.l0] at h
  | k + 1 => by
    have ih0 := journal_EncodeAll.mono_l k
    · intro y0 y1 y2 y3
      unfold journal_EncodeAll.l0
      repeat' first
      | (with_reducible exact ih0 _ _ _ _)
      | (with_reducible exact journal_Encode.mono _ _ _)
      | (with_reducible exact LeO.refl _)
      | (with_reducible exact LeO.none _)
      | (with_reducible refine LeO.ite ?_ ?_)
      | (with_reducible refine LeO.bind ?_ (fun _ => ?_))
      | exact ih0 _ _ _ _
      | exact journal_Encode.mono _ _ _
      | exact LeO.none _
      | refine LeO.ite ?_ ?_
      | refine LeO.bind ?_ (fun _ => ?_)
theorem journal_EncodeAll.mono : ∀ a0 k, LeO (journal_EncodeAll.f k a0) (journal_EncodeAll.f (k + 1) a0) := by
  intro a0 k
  have ih0 := journal_EncodeAll.mono_l k
  unfold journal_EncodeAll.f
  repeat' first
      | (with_reducible exact ih0 _ _ _ _)
      | (with_reducible exact journal_Encode.mono _ _ _)
      | (with_reducible exact LeO.refl _)
      | (with_reducible exact LeO.none _)
      | (with_reducible refine LeO.ite ?_ ?_)
      | (with_reducible refine LeO.bind ?_ (fun _ => ?_))
      | exact ih0 _ _ _ _
      | exact journal_Encode.mono _ _ _
      | exact LeO.none _
      | refine LeO.ite ?_ ?_
      | refine LeO.bind ?_ (fun _ => ?_)
set_option maxHeartbeats 8000000 in
set_option maxRecDepth 100000 in
theorem journal_EncodeAll.calls (k : Nat) (A0 : Option Addr) (c0 : Nat) (l0 : List (S37)) (r1 : ByteArray) (r2 : Int) (w : World) (hr0 : Kd.C k37 w A0 l0.length l0) (hc0 : l0.length ≤ c0) (h : journal_EncodeAll.f k l0 = some (r1, r2)) :
    Calls Try.prog 28 #[.slice A0 l0.length c0] w fun e w' => e = .returned (.tuple #[.string r1, .int .i64 r2]) ∧ Below w.heap.size w w' := by
  have hu37 := Try.underlying37
  have HR0 := Aside0.mk hr0
  have HC0 := Aside0.mk hc0
  clear hr0 hc0
  have HB := Aside0.mk (Below.refl w.heap.size w)
  have H : (journal_EncodeAll.l0 k ([] : List Int) l0 (l0.length : Int) 0) = some (r1, r2) := h
  clear h
  have H' := Aside0.mk H
  clear H
  go_enter Try.func28, Try.ntmps28
  go_wp2
  go_loopg [4, 11] k (fun kq v4 v11 w' => ∃ (x4_1 : List Int) (x11_1 : Int), v11 = .int .i64 x11_1 ∧ Aside0 (journal_EncodeAll.l0 kq x4_1 l0 (l0.length : Int) x11_1 = some (r1, r2)) ∧ Aside0 (kq ≤ k) ∧ Aside0 (Kd.R (Kd.int .u8) 5 w' w.heap.size (fun _ => True) v4 x4_1) ∧ Aside0 (Below w.heap.size w w'))
  case atStart => exact ⟨(([] : List Int)), (0), (by first | rfl | (simp; done) | (simp [*]; done)), H', ⟨Nat.le_refl _⟩, ⟨by first | exact Kd.R_nil _ _ _ _ _ | exact Kd.N_nil _ _ _ _ _ | exact Kd.V_nil _ _ _ _ _ | exact Kd.Q_nil _ _ _ _ _ | exact Kd.S_nil _ _ _ _ _⟩, ⟨by repeat (first | (with_reducible first | exact HB.out | apply below_alloc | apply pw_below_drewN | apply below_drew1) | exact HB.out)⟩⟩
  case round =>
    clear H'
    obtain ⟨x4_1, x11_1, rfl, HA, HK1, HO_4, HB⟩ := hrel
    cases gk with
    | zero => exact absurd HA.out (by simp [journal_EncodeAll.l0])
    | succ k1 =>
      have H := HA.out
      clear HA
      simp only [journal_EncodeAll.l0] at H
      by_cases c2 : x11_1 < (l0.length : Int)
      · rw [if_pos c2] at H
        have c2b0 : decide (x11_1 < (l0.length : Int)) = true := decide_eq_true c2
        clear c2
        by_cases c3 : 0 ≤ x11_1
        · rw [if_pos c3] at H
          have c3b0 : decide (0 ≤ x11_1) = true := decide_eq_true c3
          clear c3
          by_cases c4 : x11_1 < (l0.length : Int)
          · rw [if_pos c4] at H
            have c4b0 : decide (x11_1 < (l0.length : Int)) = true := decide_eq_true c4
            clear c4
            replace H := Option.bind_eq_some_iff.mp H
            obtain ⟨⟨t103, t104⟩, A50, H⟩ := H
            replace H : (if t104 = 0 then (if x4_1.length + t103.size < 140737488355328 then (journal_EncodeAll.l0 k1 (x4_1 ++ bytesOf t103) l0 (l0.length : Int) (wrap64 (x11_1 + 1))) else (none)) else (some ((⟨#[]⟩ : ByteArray), t104))) = some (r1, r2) := H
            have A5 := Aside0.mk A50
            clear A50
            by_cases c6 : t104 = 0
            · rw [if_pos c6] at H
              have c6b0 : (t104 == 0) = true := beq_iff_eq.mpr c6
              have c6b1 : (t104 != 0) = false := bne_eq_false_iff_eq.mpr c6
              clear c6
              by_cases c7 : x4_1.length + t103.size < 140737488355328
              · rw [if_pos c7] at H
                have LMc7 := Aside0.mk c7
                clear c7
                obtain ⟨y105, hy105⟩ : ∃ y_ : List Int, y_ = (x4_1 ++ bytesOf t103) := ⟨_, rfl⟩
                replace H : (journal_EncodeAll.l0 k1 y105 l0 (l0.length : Int) (wrap64 (x11_1 + 1))) = some (r1, r2) := by first | (rw [hy105]; with_reducible exact H) | (have H2_ := (Option.bind_some _ _).symm.trans H; rw [hy105]; with_reducible exact H2_) | (have H2_ := (Option.bind_some _ _).symm.trans H; with_reducible exact H2_) | with_reducible exact H | (rw [hy105]; exact H) | exact H
                have Ny105 := Aside0.mk hy105
                clear hy105
                have H' := Aside0.mk H
                clear H
                have p101 : 0 ≤ (x11_1 : Int) := of_decide_eq_true (by first | (with_reducible assumption) | assumption)
                have q101 : x11_1 < (l0.length : Int) := of_decide_eq_true (by first | (with_reducible assumption) | assumption)
                obtain ⟨ad101, e101, hx101_0, hx101_1⟩ := at_T37 HR0.out x11_1 p101 q101
                cases e101
                replace hx101_0 := (HB.out.cell (World.block_lt_of_cell? w _ hx101_0)).trans hx101_0
                replace hx101_1 := (HB.out.cell (World.block_lt_of_cell? w _ hx101_1)).trans hx101_1
                replace p101 := eq_true p101
                replace q101 := eq_true q101
                go_wp2_with (first | ((with_reducible refine gate_dst (N := 6) rfl ?_); refine box_event ?hg (N := 6) ?hd (cs := #[.int .i64 0, .string (⟨#[]⟩ : ByteArray)]) (t := 37) ?hr ?_; (case hd => rfl); (case hg => rfl); (case hr => first | (go_simp; done) | (go_simp; rfl)); intro gb102 hg w8 hbox hb; have n0_ := Aside0.mk (Kd.R_below (by (with_reducible repeat (first | apply Kd.R_alloc | apply Kd.R_drewN | apply Kd.R_drew)); exact HO_4.out) hb); have n1_ := Aside0.mk (below_step (by repeat (first | (with_reducible first | exact HB.out | apply below_alloc | apply pw_below_drewN | apply below_drew1) | exact HB.out)) hb); have n2_ := Aside0.mk (hbox); have n3_ := Aside0.mk ((by rw [hg]; exact (below_size (by repeat (first | (with_reducible first | exact HB.out | apply below_alloc | apply pw_below_drewN | apply below_drew1) | exact HB.out))) : w.heap.size ≤ gb102)); have n4_ := Aside0.mk ((by rw [hg]; exact (below_size (by repeat (first | (with_reducible first | exact HB.out | apply below_alloc | apply pw_below_drewN | apply below_drew1) | exact HB.out))) : w.heap.size ≤ gb102)); clear HO_4; clear HB; have HO_4 := n0_; have HB := n1_; have BK102 := n2_; have GW102 := n3_; have GE102 := n4_; clear n0_ n1_ n2_ n3_ n4_; clear hb hbox hg; have hcz9_0 : w8.cell? ⟨gb102, 0, none⟩ = some (.int .i64 0) := (blk_cell BK102.out 0).trans rfl; have hcz9_1 : w8.cell? ⟨gb102, 1, none⟩ = some (.string (⟨#[]⟩ : ByteArray)) := (blk_cell BK102.out 1).trans rfl; have hfz9_0 := blk_frozen BK102.out 0; have hfz9_1 := blk_frozen BK102.out 1) | ((with_reducible refine gate_callee (f := 29) rfl ?_); refine goesL_ (some 17) rfl rfl Try.func29 (by kernel_rfl) rfl #[.agg #[.int .i64 ((rd_T37 l0 x11_1).f0), .string ((rd_T37 l0 x11_1).f1)]] rfl (by (try simp only [List.map_toArray, List.map_cons, List.map_nil]); first | done | rfl | (simp only [List.length_drop, List.length_take]; rfl)) ?_; (with_reducible refine (journal_Encode.calls k1 ((rd_T37 l0 x11_1).f0) ((rd_T37 l0 x11_1).f1) t103 t104 _ A5.out).mono ?_); rintro e w10 ⟨rfl, hb⟩; refine ⟨_, rfl, ?_⟩; have n0_ := Aside0.mk (Kd.R_below (by (with_reducible repeat (first | apply Kd.R_alloc | apply Kd.R_drewN | apply Kd.R_drew)); exact (Kd.R_mono (Kd.R_far (p := ⟨gb102, 1, none⟩) (Kd.R_far (p := ⟨gb102, 0, none⟩) (Kd.R_types HO_4.out BK102.out (by decide)) (fun _ hk => hk.2) (.int .i64 ((rd_T37 l0 x11_1).f0))) (fun _ hk => hk.2) (.string ((rd_T37 l0 x11_1).f1))) (fun _ h_ => h_.1))) hb); have n1_ := Aside0.mk (blk_below (g := gb102) (o := .cells #[.int .i64 ((rd_T37 l0 x11_1).f0), .string ((rd_T37 l0 x11_1).f1)] 37 (0, 0)) (by (with_reducible repeat (first | refine blk_drewN ?_ _ | refine blk_drew ?_ | refine blk_alloc ?_ _)); refine blk_put (cs := #[.int .i64 ((rd_T37 l0 x11_1).f0), .string (⟨#[]⟩ : ByteArray)]) ?_ 1 _ rfl; (with_reducible repeat (first | refine blk_drewN ?_ _ | refine blk_drew ?_ | refine blk_alloc ?_ _)); refine blk_put (cs := #[.int .i64 0, .string (⟨#[]⟩ : ByteArray)]) ?_ 0 _ rfl; (with_reducible repeat (first | refine blk_drewN ?_ _ | refine blk_drew ?_ | refine blk_alloc ?_ _)); exact BK102.out) hb); have n2_ := Aside0.mk (below_step (by repeat (first | (with_reducible first | exact HB.out | apply below_alloc | apply pw_below_drewN | apply below_drew1 | refine below_set ?_ GE102.out) | exact HB.out)) hb); clear HO_4; clear BK102; clear HB; have HO_4 := n0_; have BK102 := n1_; have HB := n2_; clear n0_ n1_ n2_; (try clear hb); (try clear hb2); (try clear hk); (try clear hi)) | (at_builtin; refine print_append_str (w0 := w) w.heap.size rfl (.tmp 23) _ 39 9 5 rfl Try.underlying39 Try.underlying9 info5 u4 x4_1 t103 rfl rfl ?aO ?aB ?aS ?aL ?_; (case aB => exact (by repeat (first | (with_reducible first | exact HB.out | apply below_alloc | apply pw_below_drewN | apply below_drew1 | refine below_set ?_ GE102.out) | exact HB.out))); (case aO => exact (Kd.own_of_R (by (with_reducible repeat (first | apply Kd.R_alloc | apply Kd.R_drewN | apply Kd.R_drew)); exact HO_4.out))); (case aS => exact (below_size (by repeat (first | (with_reducible first | exact HB.out | apply below_alloc | apply pw_below_drewN | apply below_drew1 | refine below_set ?_ GE102.out) | exact HB.out)))); (case aL => have := LMc7.out; omega); intro v106 w11 ho0 hb hg; have ho := Kd.R_of_own (h1 := fun _ => rfl) (ok := fun _ => True) ho0 (fun _ _ => trivial); clear ho0; have hat := True.intro; rw [← Ny105.out] at ho; change Kd.R (Kd.int .u8) 5 w11 w.heap.size (fun _ => True) v106 y105 at ho; have n0_ := Aside0.mk (blk_grown (g := gb102) (o := .cells #[.int .i64 ((rd_T37 l0 x11_1).f0), .string ((rd_T37 l0 x11_1).f1)] 37 (0, 0)) (by (with_reducible repeat (first | refine blk_drewN ?_ _ | refine blk_drew ?_ | refine blk_alloc ?_ _)); exact BK102.out) hg (Kd.R_ne HO_4.out BK102.out (by decide))); have n1_ := Aside0.mk (hb); have n2_ := Aside0.mk (ho); clear BK102; clear HB; clear HO_4; have BK102 := n0_; have HB := n1_; have HO107 := n2_; clear n0_ n1_ n2_; clear ho hb hg hat))
                go_roundg k1
                case measure => have := HK1.out; omega
                case rel => exact ⟨(y105), (wrap64 (x11_1 + 1)), (by first | rfl | (simp; done) | (simp [*]; done)), H', ⟨by have := HK1.out; omega⟩, ⟨by (with_reducible repeat (first | apply Kd.R_alloc | apply Kd.R_drewN | apply Kd.R_drew)); exact HO107.out⟩, ⟨by repeat (first | (with_reducible first | exact HB.out | apply below_alloc | apply pw_below_drewN | apply below_drew1 | refine below_set ?_ GE102.out) | exact HB.out)⟩⟩
              · rw [if_neg c7] at H
                exact absurd H (by simp)
            · rw [if_neg c6] at H
              have c6b0 : (t104 == 0) = false := beq_eq_false_iff_ne.mpr c6
              have c6b1 : (t104 != 0) = true := bne_iff_ne.mpr c6
              simp only [Option.some.injEq, Prod.mk.injEq] at H
              obtain ⟨rfl, rfl⟩ := H
              have p101 : 0 ≤ (x11_1 : Int) := of_decide_eq_true (by first | (with_reducible assumption) | assumption)
              have q101 : x11_1 < (l0.length : Int) := of_decide_eq_true (by first | (with_reducible assumption) | assumption)
              obtain ⟨ad101, e101, hx101_0, hx101_1⟩ := at_T37 HR0.out x11_1 p101 q101
              cases e101
              replace hx101_0 := (HB.out.cell (World.block_lt_of_cell? w _ hx101_0)).trans hx101_0
              replace hx101_1 := (HB.out.cell (World.block_lt_of_cell? w _ hx101_1)).trans hx101_1
              replace p101 := eq_true p101
              replace q101 := eq_true q101
              go_wp2_with (first | ((with_reducible refine gate_dst (N := 6) rfl ?_); refine box_event ?hg (N := 6) ?hd (cs := #[.int .i64 0, .string (⟨#[]⟩ : ByteArray)]) (t := 37) ?hr ?_; (case hd => rfl); (case hg => rfl); (case hr => first | (go_simp; done) | (go_simp; rfl)); intro gb102 hg w12 hbox hb; have n0_ := Aside0.mk (Kd.R_below (by (with_reducible repeat (first | apply Kd.R_alloc | apply Kd.R_drewN | apply Kd.R_drew)); exact HO_4.out) hb); have n1_ := Aside0.mk (below_step (by repeat (first | (with_reducible first | exact HB.out | apply below_alloc | apply pw_below_drewN | apply below_drew1) | exact HB.out)) hb); have n2_ := Aside0.mk (hbox); have n3_ := Aside0.mk ((by rw [hg]; exact (below_size (by repeat (first | (with_reducible first | exact HB.out | apply below_alloc | apply pw_below_drewN | apply below_drew1) | exact HB.out))) : w.heap.size ≤ gb102)); have n4_ := Aside0.mk ((by rw [hg]; exact (below_size (by repeat (first | (with_reducible first | exact HB.out | apply below_alloc | apply pw_below_drewN | apply below_drew1) | exact HB.out))) : w.heap.size ≤ gb102)); clear HO_4; clear HB; have HO_4 := n0_; have HB := n1_; have BK102 := n2_; have GW102 := n3_; have GE102 := n4_; clear n0_ n1_ n2_ n3_ n4_; clear hb hbox hg; have hcz13_0 : w12.cell? ⟨gb102, 0, none⟩ = some (.int .i64 0) := (blk_cell BK102.out 0).trans rfl; have hcz13_1 : w12.cell? ⟨gb102, 1, none⟩ = some (.string (⟨#[]⟩ : ByteArray)) := (blk_cell BK102.out 1).trans rfl; have hfz13_0 := blk_frozen BK102.out 0; have hfz13_1 := blk_frozen BK102.out 1) | ((with_reducible refine gate_callee (f := 29) rfl ?_); refine goesL_ (some 17) rfl rfl Try.func29 (by kernel_rfl) rfl #[.agg #[.int .i64 ((rd_T37 l0 x11_1).f0), .string ((rd_T37 l0 x11_1).f1)]] rfl (by (try simp only [List.map_toArray, List.map_cons, List.map_nil]); first | done | rfl | (simp only [List.length_drop, List.length_take]; rfl)) ?_; (with_reducible refine (journal_Encode.calls k1 ((rd_T37 l0 x11_1).f0) ((rd_T37 l0 x11_1).f1) t103 t104 _ A5.out).mono ?_); rintro e w14 ⟨rfl, hb⟩; refine ⟨_, rfl, ?_⟩; have n0_ := Aside0.mk (Kd.R_below (by (with_reducible repeat (first | apply Kd.R_alloc | apply Kd.R_drewN | apply Kd.R_drew)); exact (Kd.R_mono (Kd.R_far (p := ⟨gb102, 1, none⟩) (Kd.R_far (p := ⟨gb102, 0, none⟩) (Kd.R_types HO_4.out BK102.out (by decide)) (fun _ hk => hk.2) (.int .i64 ((rd_T37 l0 x11_1).f0))) (fun _ hk => hk.2) (.string ((rd_T37 l0 x11_1).f1))) (fun _ h_ => h_.1))) hb); have n1_ := Aside0.mk (blk_below (g := gb102) (o := .cells #[.int .i64 ((rd_T37 l0 x11_1).f0), .string ((rd_T37 l0 x11_1).f1)] 37 (0, 0)) (by (with_reducible repeat (first | refine blk_drewN ?_ _ | refine blk_drew ?_ | refine blk_alloc ?_ _)); refine blk_put (cs := #[.int .i64 ((rd_T37 l0 x11_1).f0), .string (⟨#[]⟩ : ByteArray)]) ?_ 1 _ rfl; (with_reducible repeat (first | refine blk_drewN ?_ _ | refine blk_drew ?_ | refine blk_alloc ?_ _)); refine blk_put (cs := #[.int .i64 0, .string (⟨#[]⟩ : ByteArray)]) ?_ 0 _ rfl; (with_reducible repeat (first | refine blk_drewN ?_ _ | refine blk_drew ?_ | refine blk_alloc ?_ _)); exact BK102.out) hb); have n2_ := Aside0.mk (below_step (by repeat (first | (with_reducible first | exact HB.out | apply below_alloc | apply pw_below_drewN | apply below_drew1 | refine below_set ?_ GE102.out) | exact HB.out)) hb); clear HO_4; clear BK102; clear HB; have HO_4 := n0_; have BK102 := n1_; have HB := n2_; clear n0_ n1_ n2_; (try clear hb); (try clear hb2); (try clear hk); (try clear hi)))
              go_ret2
              exact ⟨by first | rfl | (simp [errW_none, errW_some] <;> rfl) | (simp [*, errW_none, errW_some] <;> rfl), by repeat (first | (with_reducible first | exact HB.out | apply below_alloc | apply pw_below_drewN | apply below_drew1 | refine below_set ?_ GE102.out) | exact HB.out)⟩
          · rw [if_neg c4] at H
            exact absurd H (by simp)
        · rw [if_neg c3] at H
          exact absurd H (by simp)
      · rw [if_neg c2] at H
        have c2b0 : decide (x11_1 < (l0.length : Int)) = false := decide_eq_false c2
        clear c2
        simp only [Option.some.injEq, Prod.mk.injEq] at H
        obtain ⟨rfl, rfl⟩ := H
        have hcv15 := own_string (P := Try.prog) Try.underlying39 Try.underlying5 Try.underlying9 (Kd.own_of_R HO_4.out)
        go_wp2
        go_ret2
        exact ⟨by first | rfl | (simp [errW_none, errW_some] <;> rfl) | (simp [*, errW_none, errW_some] <;> rfl), by repeat (first | (with_reducible first | exact HB.out | apply below_alloc | apply pw_below_drewN | apply below_drew1) | exact HB.out)⟩

end Go.Proofs.Ytnaddmkaakdhoaa.J

end
