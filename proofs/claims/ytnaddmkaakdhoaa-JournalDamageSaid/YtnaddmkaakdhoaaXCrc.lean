/-
  The checksum of chapter 3 on words of 32 bits: eight steps of one bit are two steps of four bits by a table, and steps of one bit lose nothing. No condition.
-/
import Derived.Laws.Entries
namespace Go.Proofs.Ytnaddmkaakdhoaa.Crc

abbrev W32 := BitVec 32
def poly : W32 := 2197175160#32
/-- One bit. -/
def st1 (v : W32) : W32 := if v.getLsbD 0 = true then (v >>> 1) ^^^ poly else v >>> 1
def stN : Nat → W32 → W32
  | 0, v => v
  | n + 1, v => stN n (st1 v)
/-- One byte. -/
def upd (v c : W32) : W32 := stN 8 (v ^^^ c)
def crc (v : W32) (l : List Int) : W32 := l.foldl (fun v c => upd v (BitVec.ofInt 32 c)) v
/-- The sum of chapter 3. -/
def sum (l : List Int) : Int := ((~~~ (crc (BitVec.allOnes 32) l)).toNat : Int)

theorem st1_xor (a b : W32) : st1 (a ^^^ b) = st1 a ^^^ st1 b := by
  unfold st1
  rw [BitVec.getLsbD_xor]
  cases ha : a.getLsbD 0 <;> cases hb : b.getLsbD 0 <;> simp [BitVec.ushiftRight_xor_distrib]
  · rw [BitVec.xor_assoc]
  · rw [BitVec.xor_assoc, BitVec.xor_assoc, BitVec.xor_comm poly]
  · rw [show a >>> 1 ^^^ poly ^^^ (b >>> 1 ^^^ poly) = (a >>> 1 ^^^ b >>> 1) ^^^ (poly ^^^ poly) from by
      rw [BitVec.xor_assoc, BitVec.xor_assoc, ← BitVec.xor_assoc poly, BitVec.xor_comm poly (b >>> 1), BitVec.xor_assoc (b >>> 1)], BitVec.xor_self, BitVec.xor_zero]

theorem stN_xor : ∀ (n : Nat) (a b : W32), stN n (a ^^^ b) = stN n a ^^^ stN n b
  | 0, _, _ => rfl
  | n + 1, a, b => by simp only [stN]; rw [st1_xor, stN_xor n]

theorem stN_add : ∀ (m n : Nat) (a : W32), stN (m + n) a = stN n (stN m a)
  | 0, n, a => by simp [stN]
  | m + 1, n, a => by rw [Nat.succ_add]; simp only [stN]; exact stN_add m n _

theorem st1_even (a : W32) (h : a.getLsbD 0 = false) : st1 a = a >>> 1 := by unfold st1; rw [h, if_neg (by simp)]

theorem stN_low : ∀ (n : Nat) (a : W32), (∀ i, i < n → a.getLsbD i = false) → stN n a = a >>> n
  | 0, a, _ => by simp [stN]
  | n + 1, a, h => by
    simp only [stN]
    rw [st1_even a (h 0 (by omega)), stN_low n]
    · rw [← BitVec.shiftRight_add, Nat.add_comm]
    · intro i hi
      rw [BitVec.getLsbD_ushiftRight]
      exact h _ (by omega)

theorem split4 (v : W32) : v = (v &&& 15#32) ^^^ ((v >>> 4) <<< 4) := by
  apply BitVec.eq_of_getLsbD_eq
  intro i hi
  have h15 : (15#32).getLsbD i = decide (i < 4) := by
    rcases Nat.lt_or_ge i 4 with h | h
    · have : i = 0 ∨ i = 1 ∨ i = 2 ∨ i = 3 := by omega
      rcases this with rfl | rfl | rfl | rfl <;> rfl
    · rw [decide_eq_false (by omega)]
      rw [BitVec.getLsbD_ofNat]
      have : (15 : Nat).testBit i = false := Nat.testBit_lt_two_pow (Nat.lt_of_lt_of_le (by decide : 15 < 2 ^ 4) (Nat.pow_le_pow_right (by decide) h))
      rw [this]; simp
  simp only [BitVec.getLsbD_xor, BitVec.getLsbD_and, BitVec.getLsbD_shiftLeft, BitVec.getLsbD_ushiftRight, h15]
  by_cases h : i < 4
  · simp [h]
  · have e : 4 + (i - 4) = i := by omega
    simp [h, hi, e]

/-- Four bits by the table. -/
theorem nib (v : W32) : stN 4 v = (v >>> 4) ^^^ stN 4 (v &&& 15#32) := by
  have h := stN_xor 4 (v &&& 15#32) ((v >>> 4) <<< 4)
  rw [← split4 v] at h
  rw [h, stN_low 4 ((v >>> 4) <<< 4)]
  · rw [BitVec.xor_comm]
    congr 1
    apply BitVec.eq_of_getLsbD_eq
    intro i hi
    simp only [BitVec.getLsbD_shiftLeft, BitVec.getLsbD_ushiftRight]
    by_cases h : 4 + i < 32
    · simp [h]
    · rw [BitVec.getLsbD_of_ge v (4 + i) (by omega)]; simp; omega
  · intro i hi
    simp [BitVec.getLsbD_shiftLeft, hi]

theorem upd_nib (v c : W32) : upd v c = ((((v ^^^ c) >>> 4) ^^^ stN 4 ((v ^^^ c) &&& 15#32)) >>> 4) ^^^ stN 4 ((((v ^^^ c) >>> 4) ^^^ stN 4 ((v ^^^ c) &&& 15#32)) &&& 15#32) := by
  unfold upd
  rw [show (8 : Nat) = 4 + 4 from rfl, stN_add, ← nib (v ^^^ c), ← nib]

/-! ### nothing is lost -/
theorem poly_top : poly.getLsbD 31 = true := by decide

theorem st1_zero {d : W32} (h : st1 d = 0#32) : d = 0#32 := by
  unfold st1 at h
  cases hd : d.getLsbD 0 with
  | true =>
    rw [hd, if_pos rfl] at h
    have := congrArg (fun z => z.getLsbD 31) h
    simp only [BitVec.getLsbD_xor, BitVec.getLsbD_ushiftRight, poly_top] at this
    rw [BitVec.getLsbD_of_ge d (1 + 31) (by omega)] at this
    simp at this
  | false =>
    rw [hd, if_neg (by simp)] at h
    apply BitVec.eq_of_getLsbD_eq
    intro i hi
    cases i with
    | zero => rw [hd]; simp
    | succ i =>
      have := congrArg (fun z => z.getLsbD i) h
      simp only [BitVec.getLsbD_ushiftRight] at this
      rw [Nat.add_comm 1 i] at this
      rw [this]; simp

theorem stN_zero : ∀ (n : Nat) {d : W32}, stN n d = 0#32 → d = 0#32
  | 0, _, h => h
  | n + 1, _, h => st1_zero (stN_zero n h)

theorem xor_eq_zero {a b : W32} (h : a ^^^ b = 0#32) : a = b := by
  have : a ^^^ b ^^^ b = 0#32 ^^^ b := by rw [h]
  rwa [BitVec.xor_assoc, BitVec.xor_self, BitVec.xor_zero, BitVec.zero_xor] at this

theorem upd_inj {v v' c : W32} (h : upd v c = upd v' c) : v = v' := by
  unfold upd at h
  have e : stN 8 ((v ^^^ c) ^^^ (v' ^^^ c)) = 0#32 := by rw [stN_xor, h, BitVec.xor_self]
  have := xor_eq_zero (stN_zero 8 e)
  have h2 : v ^^^ c ^^^ c = v' ^^^ c ^^^ c := by rw [this]
  rwa [BitVec.xor_assoc, BitVec.xor_self, BitVec.xor_zero, BitVec.xor_assoc, BitVec.xor_self, BitVec.xor_zero] at h2

theorem upd_inj_c {v c c' : W32} (h : upd v c = upd v c') : c = c' := by
  unfold upd at h
  have e : stN 8 ((v ^^^ c) ^^^ (v ^^^ c')) = 0#32 := by rw [stN_xor, h, BitVec.xor_self]
  have h1 := xor_eq_zero (stN_zero 8 e)
  have h2 : v ^^^ (v ^^^ c) = v ^^^ (v ^^^ c') := by rw [h1]
  rwa [← BitVec.xor_assoc, ← BitVec.xor_assoc, BitVec.xor_self, BitVec.zero_xor, BitVec.zero_xor] at h2

theorem crc_append (v : W32) (l m : List Int) : crc v (l ++ m) = crc (crc v l) m := by simp [crc, List.foldl_append]
theorem crc_cons (v : W32) (c : Int) (m : List Int) : crc v (c :: m) = crc (upd v (BitVec.ofInt 32 c)) m := rfl
theorem crc_inj : ∀ (l : List Int) {v v' : W32}, crc v l = crc v' l → v = v'
  | [], _, _, h => h
  | _ :: l, _, _, h => upd_inj (crc_inj l h)

theorem not_inj {a b : W32} (h : ~~~a = ~~~b) : a = b := by
  have : ~~~(~~~a) = ~~~(~~~b) := by rw [h]
  simpa using this
theorem sum_inj {l m : List Int} (h : sum l = sum m) : crc (BitVec.allOnes 32) l = crc (BitVec.allOnes 32) m := by
  unfold sum at h
  have h1 : (~~~ (crc (BitVec.allOnes 32) l)).toNat = (~~~ (crc (BitVec.allOnes 32) m)).toNat := by omega
  exact not_inj (BitVec.eq_of_toNat_eq h1)

theorem byte_inj {c c' : Int} (h0 : 0 ≤ c) (h1 : c ≤ 255) (h0' : 0 ≤ c') (h1' : c' ≤ 255) (h : BitVec.ofInt 32 c = BitVec.ofInt 32 c') : c = c' := by
  have := congrArg BitVec.toNat h
  simp only [BitVec.toNat_ofInt] at this
  omega

/-- One byte turned: another sum. -/
theorem sum_one {l m : List Int} {c c' : Int} (h0 : 0 ≤ c) (h1 : c ≤ 255) (h0' : 0 ≤ c') (h1' : c' ≤ 255) (h : sum (l ++ c :: m) = sum (l ++ c' :: m)) : c = c' := by
  have e := sum_inj h
  rw [crc_append, crc_append, crc_cons, crc_cons] at e
  exact byte_inj h0 h1 h0' h1' (upd_inj_c (crc_inj m e))

/-! ### at most four bytes at the end -/
theorem st1_back {d : W32} {k : Nat} (hk : k ≤ 31) (h : ∀ i, k ≤ i → (st1 d).getLsbD i = false) : d.getLsbD 0 = false ∧ (∀ i, k + 1 ≤ i → d.getLsbD i = false) := by
  cases hd : d.getLsbD 0 with
  | true =>
    have := h 31 hk
    unfold st1 at this
    rw [hd, if_pos rfl] at this
    simp only [BitVec.getLsbD_xor, BitVec.getLsbD_ushiftRight, poly_top] at this
    rw [BitVec.getLsbD_of_ge d (1 + 31) (by omega)] at this
    simp at this
  | false =>
    refine ⟨rfl, fun i hi => ?_⟩
    have := h (i - 1) (by omega)
    rw [st1_even d hd, BitVec.getLsbD_ushiftRight] at this
    rwa [show 1 + (i - 1) = i from by omega] at this

theorem stN_back : ∀ (n k : Nat) (d : W32), k + n ≤ 32 → (∀ i, k ≤ i → (stN n d).getLsbD i = false) → (∀ i, i < n → d.getLsbD i = false) ∧ (∀ i, k + n ≤ i → d.getLsbD i = false)
  | 0, _, _, _, h => ⟨fun _ hi => by omega, h⟩
  | n + 1, k, d, hk, h => by
    simp only [stN] at h
    obtain ⟨a, b⟩ := stN_back n k (st1 d) (by omega) h
    obtain ⟨c, e⟩ := st1_back (d := d) (k := k + n) (by omega) b
    refine ⟨fun i hi => ?_, fun i hi => e i (by omega)⟩
    cases i with
    | zero => exact c
    | succ i =>
      have := a i (by omega)
      rw [st1_even d c, BitVec.getLsbD_ushiftRight, Nat.add_comm] at this
      exact this

theorem zero_of {d : W32} {k : Nat} (a : ∀ i, i < k → d.getLsbD i = false) (b : ∀ i, k ≤ i → d.getLsbD i = false) : d = 0#32 := by
  apply BitVec.eq_of_getLsbD_eq
  intro i _
  rcases Nat.lt_or_ge i k with h | h
  · rw [a i h]; simp
  · rw [b i h]; simp

theorem byte_high {c : Int} (h0 : 0 ≤ c) (h1 : c ≤ 255) (i : Nat) (hi : 8 ≤ i) : (BitVec.ofInt 32 c).getLsbD i = false := by
  obtain ⟨n, rfl⟩ := Int.eq_ofNat_of_zero_le h0
  rw [BitVec.ofInt_natCast, BitVec.getLsbD_ofNat, Nat.testBit_lt_two_pow (Nat.lt_of_lt_of_le (by omega : n < 2 ^ 8) (Nat.pow_le_pow_right (by decide) hi))]
  simp

def Byte (c : Int) : Prop := 0 ≤ c ∧ c ≤ 255

/-- d: the difference of the two states ahead of the bytes; behind j bytes there is none: it was below 2^(8 j). -/
theorem tail_back : ∀ (l m : List Int) (v v' : W32), l.length = m.length → l.length ≤ 4 → (∀ c ∈ l, Byte c) → (∀ c ∈ m, Byte c) → crc v l = crc v' m →
    (∀ i, 8 * l.length ≤ i → (v ^^^ v').getLsbD i = false) ∧ (v = v' → l = m)
  | [], [], v, v', _, _, _, _, h => ⟨fun i _ => by
      have : v = v' := h
      subst this; rw [BitVec.xor_self]; simp, fun _ => rfl⟩
  | [], _ :: _, _, _, h, _, _, _, _ => by simp at h
  | _ :: _, [], _, _, h, _, _, _, _ => by simp at h
  | c :: l, c' :: m, v, v', hl, h4, hb, hb', h => by
    simp only [List.length_cons] at hl h4 ⊢
    have hc := hb c (by simp)
    have hc' := hb' c' (by simp)
    obtain ⟨a, b⟩ := tail_back l m _ _ (by omega) (by omega) (fun x hx => hb x (by simp [hx])) (fun x hx => hb' x (by simp [hx])) h
    have e : upd v (BitVec.ofInt 32 c) ^^^ upd v' (BitVec.ofInt 32 c') = stN 8 ((v ^^^ v') ^^^ (BitVec.ofInt 32 c ^^^ BitVec.ofInt 32 c')) := by
      unfold upd
      rw [← stN_xor]
      congr 1
      rw [BitVec.xor_assoc, BitVec.xor_assoc, ← BitVec.xor_assoc (BitVec.ofInt 32 c), BitVec.xor_comm (BitVec.ofInt 32 c) v', BitVec.xor_assoc v']
    rw [e] at a
    obtain ⟨lo, hi⟩ := stN_back 8 (8 * l.length) _ (by omega) a
    refine ⟨fun i hi' => ?_, fun hv => ?_⟩
    · have := hi i (by omega)
      rw [BitVec.getLsbD_xor, BitVec.getLsbD_xor (x := BitVec.ofInt 32 c), byte_high hc.1 hc.2 i (by omega), byte_high hc'.1 hc'.2 i (by omega)] at this
      simpa using this
    · subst hv
      rw [BitVec.xor_self, BitVec.zero_xor] at lo hi
      have z := zero_of (k := 8) lo fun i hi' => by rw [BitVec.getLsbD_xor, byte_high hc.1 hc.2 i hi', byte_high hc'.1 hc'.2 i hi']; rfl
      have hcc := byte_inj hc.1 hc.2 hc'.1 hc'.2 (xor_eq_zero z)
      subst hcc
      rw [b rfl]

/-- At most four bytes at the end turned: another sum. -/
theorem sum_tail {p l m : List Int} (hl : l.length = m.length) (h4 : l.length ≤ 4) (hb : ∀ c ∈ l, Byte c) (hb' : ∀ c ∈ m, Byte c) (h : sum (p ++ l) = sum (p ++ m)) : l = m := by
  have e := sum_inj h
  rw [crc_append, crc_append] at e
  exact (tail_back l m _ _ hl h4 hb hb' e).2 rfl

theorem sum_bound (l : List Int) : 0 ≤ sum l ∧ sum l < 4294967296 := by
  unfold sum
  have := (~~~ (crc (BitVec.allOnes 32) l)).isLt
  omega

/-! ### as the walk spells it -/
theorem xor_u32 (x y : Int) : Go.bits .xor .u32 x y = ((BitVec.ofInt 32 x ^^^ BitVec.ofInt 32 y).toNat : Int) := by
  show IntKind.u32.wrap ((BitVec.ofInt 32 x ^^^ BitVec.ofInt 32 y).toNat : Int) = _
  have := (BitVec.ofInt 32 x ^^^ BitVec.ofInt 32 y).isLt
  generalize (BitVec.ofInt 32 x ^^^ BitVec.ofInt 32 y).toNat = n at *
  simp [IntKind.wrap, IntKind.bits, IntKind.signed]
  omega
theorem and_u32 (x y : Int) : Go.bits .and .u32 x y = ((BitVec.ofInt 32 x &&& BitVec.ofInt 32 y).toNat : Int) := by
  show IntKind.u32.wrap ((BitVec.ofInt 32 x &&& BitVec.ofInt 32 y).toNat : Int) = _
  have := (BitVec.ofInt 32 x &&& BitVec.ofInt 32 y).isLt
  generalize (BitVec.ofInt 32 x &&& BitVec.ofInt 32 y).toNat = n at *
  simp [IntKind.wrap, IntKind.bits, IntKind.signed]
  omega
theorem ofInt_toNat (v : W32) : BitVec.ofInt 32 (v.toNat : Int) = v := by simp
theorem ofInt_div (v : W32) (n : Nat) : BitVec.ofInt 32 ((v.toNat : Int) / 2 ^ n) = v >>> n := by
  apply BitVec.eq_of_toNat_eq
  rw [BitVec.toNat_ushiftRight, Nat.shiftRight_eq_div_pow, show ((v.toNat : Int) / 2 ^ n) = ((v.toNat / 2 ^ n : Nat) : Int) by push_cast; rfl, BitVec.ofInt_natCast, BitVec.toNat_ofNat]
  exact Nat.mod_eq_of_lt (Nat.lt_of_le_of_lt (Nat.div_le_self _ _) v.isLt)
theorem ofInt_mod (c : Int) : BitVec.ofInt 32 (c % 4294967296) = BitVec.ofInt 32 c := by
  apply BitVec.eq_of_toNat_eq
  simp only [BitVec.toNat_ofInt]
  congr 1
  omega

end Go.Proofs.Ytnaddmkaakdhoaa.Crc
