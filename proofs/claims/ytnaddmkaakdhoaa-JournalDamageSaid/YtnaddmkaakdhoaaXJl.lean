/-
  Records of a journal as lists of bytes, plainly: what is read at the beginning of a list is a record exactly if the list begins with that record's bytes. No condition but that the list's members are bytes.
-/
import Derived.Test.YtnaddmkaakdhoaaXCrc
namespace Go.Proofs.Ytnaddmkaakdhoaa.Jl
open Crc (Byte)

def be4 (n : Int) : List Int := [n / 16777216 % 256, n / 65536 % 256, n / 256 % 256, n % 256]
def dec4 (l : List Int) : Int := l.getD 0 0 * 16777216 + l.getD 1 0 * 65536 + l.getD 2 0 * 256 + l.getD 3 0
def Bytes (l : List Int) : Prop := ∀ c ∈ l, Byte c
/-- The bytes of a record. -/
def encL (k : Int) (p : List Int) : List Int := be4 p.length ++ be4 (Crc.sum (k :: p)) ++ (k :: p)
/-- The record at the beginning of a list. -/
def nextL (l : List Int) : Option (Int × List Int) :=
  if l.length < 9 then none
  else if dec4 l > 1048576 ∨ (l.length : Int) < 9 + dec4 l then none
  else if (l.getD 8 0 = 1 ∨ l.getD 8 0 = 2) ∧ Crc.sum ((l.drop 8).take (1 + (dec4 l).toNat)) = dec4 (l.drop 4) then some (l.getD 8 0, (l.drop 9).take (dec4 l).toNat)
  else none

theorem be4_len (n : Int) : (be4 n).length = 4 := rfl
theorem be4_bytes (n : Int) : Bytes (be4 n) := by
  intro c hc
  simp only [be4, List.mem_cons, List.not_mem_nil, or_false] at hc
  unfold Byte
  rcases hc with rfl | rfl | rfl | rfl <;> omega
theorem dec4_be4 (n : Int) (h0 : 0 ≤ n) (h1 : n < 4294967296) (l : List Int) : dec4 (be4 n ++ l) = n := by
  simp [dec4, be4]
  omega
theorem be4_dec4 (a b c d : Int) (ha : Byte a) (hb : Byte b) (hc : Byte c) (hd : Byte d) (l : List Int) : be4 (dec4 (a :: b :: c :: d :: l)) = [a, b, c, d] := by
  unfold Byte at *
  simp [dec4, be4]
  omega
theorem dec4_range {l : List Int} (h : Bytes l) : 0 ≤ dec4 l ∧ dec4 l < 4294967296 := by
  have g : ∀ i, 0 ≤ l.getD i 0 ∧ l.getD i 0 ≤ 255 := by
    intro i
    rcases Nat.lt_or_ge i l.length with hi | hi
    · have := h (l.getD i 0) (by rw [List.getD_eq_getElem?_getD, List.getElem?_eq_getElem hi]; exact List.getElem_mem hi)
      exact this
    · rw [List.getD_eq_getElem?_getD, List.getElem?_eq_none hi]; simp
  have h0 := g 0
  have h1 := g 1
  have h2 := g 2
  have h3 := g 3
  unfold dec4
  omega

theorem encL_len (k : Int) (p : List Int) : (encL k p).length = 9 + p.length := by
  simp [encL, be4_len]; omega
theorem bytes_app {a b : List Int} (ha : Bytes a) (hb : Bytes b) : Bytes (a ++ b) := fun c hc => (List.mem_append.1 hc).elim (ha c) (hb c)
theorem encL_bytes {k : Int} {p : List Int} (hk : Byte k) (hp : Bytes p) : Bytes (encL k p) := by
  unfold encL
  refine bytes_app (bytes_app (be4_bytes _) (be4_bytes _)) ?_
  intro c hc
  rcases List.mem_cons.1 hc with rfl | hc
  · exact hk
  · exact hp c hc
theorem bytes_left {a b : List Int} (h : Bytes (a ++ b)) : Bytes a := fun c hc => h c (List.mem_append_left _ hc)
theorem bytes_right {a b : List Int} (h : Bytes (a ++ b)) : Bytes b := fun c hc => h c (List.mem_append_right _ hc)

/-- The shape of a list of nine bytes or more. -/
theorem nine {l : List Int} (h : 9 ≤ l.length) : ∃ a b c d e f g h i t, l = a :: b :: c :: d :: e :: f :: g :: h :: i :: t := by
  match l, h with
  | a :: b :: c :: d :: e :: f :: g :: h :: i :: t, _ => exact ⟨a, b, c, d, e, f, g, h, i, t, rfl⟩

/-- A record's bytes are read again. -/
theorem next_enc {k : Int} {p : List Int} (hk : k = 1 ∨ k = 2) (hl : p.length ≤ 1048576) (rest : List Int) : nextL (encL k p ++ rest) = some (k, p) := by
  have hd : dec4 (encL k p ++ rest) = p.length := by
    unfold encL
    rw [List.append_assoc, List.append_assoc]
    exact dec4_be4 _ (by omega) (by omega) _
  have hlen : (encL k p ++ rest).length = 9 + p.length + rest.length := by rw [List.length_append, encL_len]
  have hs := Crc.sum_bound (k :: p)
  have h4 : dec4 ((encL k p ++ rest).drop 4) = Crc.sum (k :: p) := by
    unfold encL
    rw [List.append_assoc, List.append_assoc, List.drop_append_of_le_length (by rw [be4_len]; omega)]
    rw [show (be4 (p.length : Int)).drop 4 = [] from rfl, List.nil_append]
    exact dec4_be4 _ hs.1 hs.2 _
  have e8 : (encL k p ++ rest).drop 8 = k :: (p ++ rest) := by
    unfold encL
    rw [List.append_assoc, List.drop_append_of_le_length (by simp [be4_len])]
    rw [show (be4 (p.length : Int) ++ be4 (Crc.sum (k :: p))).drop 8 = [] from rfl]
    simp
  have g8 : (encL k p ++ rest).getD 8 0 = k := by
    have := congrArg (fun z : List Int => z.head?) e8
    simp only [List.head?_drop, List.head?_cons] at this
    rw [List.getD_eq_getElem?_getD, this]; rfl
  have e9 : (encL k p ++ rest).drop 9 = p ++ rest := by
    have := congrArg (List.drop 1) e8
    rw [List.drop_drop] at this
    simpa using this
  unfold nextL
  rw [if_neg (by omega), hd, if_neg (by rw [hlen]; omega), g8, h4, e8, e9]
  have hp : (p ++ rest).take ((p.length : Int)).toNat = p := by simp
  have hp1 : (k :: (p ++ rest)).take (1 + ((p.length : Int)).toNat) = k :: p := by
    rw [Nat.add_comm, List.take_succ_cons, hp]
  rw [hp, hp1, if_pos ⟨hk, rfl⟩]

/-- What is read is there. -/
theorem next_some {l : List Int} (hb : Bytes l) {k : Int} {p : List Int} (h : nextL l = some (k, p)) : (k = 1 ∨ k = 2) ∧ p.length ≤ 1048576 ∧ Bytes p ∧ ∃ rest, l = encL k p ++ rest := by
  have hr := dec4_range hb
  unfold nextL at h
  by_cases c1 : l.length < 9
  · rw [if_pos c1] at h; cases h
  rw [if_neg c1] at h
  by_cases c2 : dec4 l > 1048576 ∨ (l.length : Int) < 9 + dec4 l
  · rw [if_pos c2] at h; cases h
  rw [if_neg c2] at h
  by_cases c3 : (l.getD 8 0 = 1 ∨ l.getD 8 0 = 2) ∧ Crc.sum ((l.drop 8).take (1 + (dec4 l).toNat)) = dec4 (l.drop 4)
  · rw [if_pos c3] at h
    simp only [Option.some.injEq, Prod.mk.injEq] at h
    obtain ⟨hk, hs⟩ := c3
    obtain ⟨h1, h2⟩ := h
    have hn : (dec4 l).toNat ≤ (l.drop 9).length := by rw [List.length_drop]; omega
    have hpl : p.length = (dec4 l).toNat := by rw [← h2, List.length_take]; omega
    refine ⟨by rw [← h1]; exact hk, by omega, fun c hc => hb c (List.mem_of_mem_drop (List.mem_of_mem_take (by rw [← h2] at hc; exact hc))), (l.drop 9).drop (dec4 l).toNat, ?_⟩
    obtain ⟨a, b, c, d, e, f, g, i, j, t, rfl⟩ := nine (l := l) (by omega)
    have B : ∀ x, x ∈ (a :: b :: c :: d :: e :: f :: g :: i :: j :: t) → Byte x := hb
    have e1 := be4_dec4 a b c d (B a (by simp)) (B b (by simp)) (B c (by simp)) (B d (by simp)) (e :: f :: g :: i :: j :: t)
    have e2 := be4_dec4 e f g i (B e (by simp)) (B f (by simp)) (B g (by simp)) (B i (by simp)) (j :: t)
    have hpl' : (p.length : Int) = dec4 (a :: b :: c :: d :: e :: f :: g :: i :: j :: t) := by rw [hpl]; omega
    have hp : t.take (dec4 (a :: b :: c :: d :: e :: f :: g :: i :: j :: t)).toNat = p := h2
    have hj : j = k := h1
    subst hj
    have hs' : Crc.sum (j :: p) = dec4 (e :: f :: g :: i :: j :: t) := by
      rw [← hp]
      rw [Nat.add_comm] at hs
      exact hs
    unfold encL
    rw [hpl', e1, hs', e2]
    show _ = a :: b :: c :: d :: e :: f :: g :: i :: j :: (p ++ t.drop _)
    rw [← hp, List.take_append_drop]
  · rw [if_neg c3] at h; cases h

theorem enc_inj {k k' : Int} {p p' r r' : List Int} (hl : p.length ≤ 1048576) (hl' : p'.length ≤ 1048576) (h : encL k p ++ r = encL k' p' ++ r') : k = k' ∧ p = p' ∧ r = r' := by
  have hd : ∀ (k : Int) (p r : List Int), p.length ≤ 1048576 → dec4 (encL k p ++ r) = p.length := by
    intro k p r h
    unfold encL
    rw [List.append_assoc, List.append_assoc]
    exact dec4_be4 _ (by omega) (by omega) _
  have e := hd k p r hl
  rw [h, hd k' p' r' hl'] at e
  have el : p.length = p'.length := by omega
  obtain ⟨e1, e2⟩ := List.append_inj h (by rw [encL_len, encL_len, el])
  unfold encL at e1
  obtain ⟨_, e3⟩ := List.append_inj e1 (by simp [be4_len])
  simp only [List.cons.injEq] at e3
  exact ⟨e3.1, e3.2, e2⟩

/-- The bytes of records. -/
def encAllL : List (Int × List Int) → List Int
  | [] => []
  | r :: l => encL r.1 r.2 ++ encAllL l
def Good (r : Int × List Int) : Prop := (r.1 = 1 ∨ r.1 = 2) ∧ r.2.length ≤ 1048576 ∧ Bytes r.2
theorem encAllL_app (l m : List (Int × List Int)) : encAllL (l ++ m) = encAllL l ++ encAllL m := by
  induction l with
  | nil => rfl
  | cons r l ih => simp only [List.cons_append, encAllL, ih, List.append_assoc]
theorem encAllL_bytes : ∀ {l : List (Int × List Int)}, (∀ r ∈ l, Good r) → Bytes (encAllL l)
  | [], _ => fun c hc => by simp [encAllL] at hc
  | r :: l, h => by
    have hr := h r (by simp)
    refine bytes_app (encL_bytes ?_ hr.2.2) (encAllL_bytes fun x hx => h x (by simp [hx]))
    unfold Byte
    rcases hr.1 with e | e <;> rw [e] <;> omega

/-- The records at the beginning of a list. -/
def scanR : Nat → List Int → List (Int × List Int)
  | 0, _ => []
  | f + 1, l => match nextL l with
    | none => []
    | some r => r :: scanR f (l.drop (9 + r.2.length))

theorem scan_step {f : Nat} {l : List Int} {r : Int × List Int} (h : nextL l = some r) : scanR (f + 1) l = r :: scanR f (l.drop (9 + r.2.length)) := by
  simp only [scanR, h]
theorem scan_stop {f : Nat} {l : List Int} (h : nextL l = none) : scanR f l = [] := by
  cases f with
  | zero => rfl
  | succ f => simp only [scanR, h]
theorem scan_pre (x : List (Int × List Int)) : ∀ (f : Nat) (rest : List Int), (∀ r ∈ x, Good r) → x.length ≤ f → scanR f (encAllL x ++ rest) = x ++ scanR (f - x.length) rest := by
  induction x with
  | nil => intro f rest _ _; simp [encAllL]
  | cons r x ih =>
    intro f rest hg hl
    obtain ⟨f, rfl⟩ : ∃ g, f = g + 1 := ⟨f - 1, by simp at hl; omega⟩
    have hr := hg r (by simp)
    have e1 : encAllL (r :: x) ++ rest = encL r.1 r.2 ++ (encAllL x ++ rest) := by simp only [encAllL, List.append_assoc]
    have e2 : (encL r.1 r.2 ++ (encAllL x ++ rest)).drop (9 + r.2.length) = encAllL x ++ rest := by rw [← encL_len r.1 r.2]; simp
    rw [e1, scan_step (next_enc hr.1 hr.2.1 _), e2, ih f rest (fun y hy => hg y (by simp [hy])) (by simpa using hl)]
    simp

theorem scan_good : ∀ (f : Nat) {l : List Int}, Bytes l → ∀ r ∈ scanR f l, Good r
  | 0, _, _, r, h => by simp [scanR] at h
  | f + 1, l, hb, r, h => by
    simp only [scanR] at h
    cases hn : nextL l with
    | none => rw [hn] at h; simp at h
    | some q =>
      obtain ⟨k, p⟩ := q
      rw [hn] at h
      obtain ⟨h1, h2, h3, rest, e⟩ := next_some hb hn
      rcases List.mem_cons.1 h with rfl | h
      · exact ⟨h1, h2, h3⟩
      · refine scan_good f ?_ r h
        intro c hc
        exact hb c (List.mem_of_mem_drop hc)

/-- What is found is a beginning of the list. -/
theorem scan_split : ∀ (f : Nat) {l : List Int}, Bytes l → ∃ rest, l = encAllL (scanR f l) ++ rest ∧ (l.length < 9 * f → nextL rest = none)
  | 0, l, _ => ⟨l, by simp [scanR, encAllL], fun h => by omega⟩
  | f + 1, l, hb => by
    simp only [scanR]
    cases hn : nextL l with
    | none => exact ⟨l, by simp [encAllL], fun _ => hn⟩
    | some q =>
      obtain ⟨k, p⟩ := q
      obtain ⟨h1, h2, h3, rest, e⟩ := next_some hb hn
      have hd : l.drop (9 + p.length) = rest := by rw [e, ← encL_len k p]; simp
      have hbr : Bytes rest := by rw [← hd]; exact fun c hc => hb c (List.mem_of_mem_drop hc)
      obtain ⟨rest', e', hnone⟩ := scan_split f hbr
      refine ⟨rest', ?_, fun hl => hnone ?_⟩
      · simp only []
        rw [hd]
        simp only [encAllL]
        rw [List.append_assoc, ← e']
        exact e
      · have := congrArg List.length e
        rw [List.length_append, encL_len] at this
        omega

theorem next_short {l : List Int} (h : l.length < 9) : nextL l = none := by unfold nextL; rw [if_pos h]

end Go.Proofs.Ytnaddmkaakdhoaa.Jl
