/-
  Texts of this claim, joined, without what the claim does not use: XDm
-/
import Derived.Lib.Bytealg
import Derived.Sort.Walk0
import Derived.Test.YtnaddmkaakdhoaaSCAd
section
namespace Go.Proofs.Ytnaddmkaakdhoaa.Dk
open Go Go.Proofs.Ytnaddmkaakdhoaa.J

def nk (s : ByteArray) : List UInt8 := s.data.toList
theorem nk_inj {a b : ByteArray} (h : nk a = nk b) : a = b := by
  cases a; cases b; congr 1; exact Array.toList_inj.1 h
theorem nk_iff {a b : ByteArray} : nk a = nk b ↔ a = b := ⟨nk_inj, fun h => by rw [h]⟩
theorem lt_irrefl (a : List UInt8) : ¬ a < a := List.lt_irrefl a
theorem lt_trans {a b c : List UInt8} (h : a < b) (k : b < c) : a < c := List.lt_trans h k
theorem lt_tri (a b : List UInt8) : a < b ∨ a = b ∨ b < a := by
  by_cases h : a < b
  · exact .inl h
  · by_cases k : b < a
    · exact .inr (.inr k)
    · exact .inr (.inl (List.le_antisymm (List.not_lt.1 k) (List.not_lt.1 h)))
theorem cmp_lt : ∀ (a b : List UInt8), Lib.compareBytes a b < 0 ↔ a < b
  | [], [] => by simp [Lib.compareBytes]
  | [], _ :: _ => by simp [Lib.compareBytes]
  | _ :: _, [] => by simp [Lib.compareBytes]
  | x :: a, y :: b => by
    have ih := cmp_lt a b
    unfold Lib.compareBytes
    rw [List.cons_lt_cons_iff]
    by_cases h : x < y
    · simp [h]
    · by_cases k : y < x
      · rw [if_neg h, if_pos k]
        have : x ≠ y := fun e => by subst e; exact h k
        simp [h, this]
      · have e : x = y := UInt8.le_antisymm (UInt8.not_lt.1 k) (UInt8.not_lt.1 h)
        subst e
        simp [ih]
theorem cmp_eq0 : ∀ (a b : List UInt8), Lib.compareBytes a b = 0 ↔ a = b
  | [], [] => by simp [Lib.compareBytes]
  | [], _ :: _ => by simp [Lib.compareBytes]
  | _ :: _, [] => by simp [Lib.compareBytes]
  | x :: a, y :: b => by
    have ih := cmp_eq0 a b
    unfold Lib.compareBytes
    by_cases h : x < y
    · have : x ≠ y := fun e => by subst e; exact UInt8.lt_irrefl _ h
      simp [h, this]
    · by_cases k : y < x
      · rw [if_neg h, if_pos k]
        have : x ≠ y := fun e => by subst e; exact h k
        simp [this]
      · have e : x = y := UInt8.le_antisymm (UInt8.not_lt.1 k) (UInt8.not_lt.1 h)
        subst e
        simp [ih]

def Srt (l : List S69) : Prop := l.Pairwise (fun a b => nk a.f0 < nk b.f0)
def pos (l : List S69) (s : ByteArray) : Nat := l.countP (fun x => decide (nk x.f0 < nk s))
def has (l : List S69) (s : ByteArray) : Bool := l.any (fun x => decide (nk x.f0 = nk s))
theorem pos_le (l : List S69) (s : ByteArray) : pos l s ≤ l.length := List.countP_le_length
theorem pos_cons_lt {x : S69} {l : List S69} {s : ByteArray} (h : nk x.f0 < nk s) : pos (x :: l) s = pos l s + 1 := by
  unfold pos; rw [List.countP_cons_of_pos (by simpa using h)]
theorem pos_cons_ge {x : S69} {l : List S69} {s : ByteArray} (hs : Srt (x :: l)) (h : ¬ nk x.f0 < nk s) : pos (x :: l) s = 0 := by
  unfold pos
  rw [List.countP_eq_zero]
  intro y hy
  rcases List.mem_cons.1 hy with rfl | hy
  · simpa using h
  · have := (List.pairwise_cons.1 hs).1 y hy
    simp only [decide_eq_true_eq]
    exact fun k => h (lt_trans this k)
theorem pos_of : ∀ (l : List S69) (s : ByteArray) (i : Nat), i ≤ l.length → (∀ t, t < i → nk (l.getD t z69).f0 < nk s) → (∀ t, i ≤ t → t < l.length → ¬ nk (l.getD t z69).f0 < nk s) → pos l s = i
  | [], s, i, hi, _, _ => by simp at hi; subst hi; rfl
  | x :: l, s, 0, hi, _, h2 => by
    unfold pos
    rw [List.countP_eq_zero]
    intro y hy
    obtain ⟨t, ht, rfl⟩ := List.getElem_of_mem hy
    have := h2 t (Nat.zero_le _) ht
    rw [List.getD_eq_getElem?_getD, List.getElem?_eq_getElem ht] at this
    simpa using this
  | x :: l, s, i + 1, hi, h1, h2 => by
    have h0 := h1 0 (by omega)
    rw [pos_cons_lt (by simpa using h0), pos_of l s i (by simpa using hi) (fun t ht => by simpa using h1 (t + 1) (by omega)) (fun t h3 h4 => by simpa using h2 (t + 1) (by omega) (by simpa using h4))]
theorem getD_eq {l : List S69} {i : Nat} (h : i < l.length) : l.getD i z69 = l[i] := by
  rw [List.getD_eq_getElem?_getD, List.getElem?_eq_getElem h]; rfl
theorem Srt.lt {l : List S69} (hs : Srt l) {i j : Nat} (hij : i < j) (hj : j < l.length) : nk (l.getD i z69).f0 < nk (l.getD j z69).f0 := by
  rw [getD_eq (by omega), getD_eq hj]
  exact List.pairwise_iff_getElem.1 hs i j (by omega) hj hij
theorem has_iff {l : List S69} {s : ByteArray} : has l s = true ↔ ∃ x ∈ l, x.f0 = s := by
  simp only [has, List.any_eq_true, decide_eq_true_eq, nk_iff]
theorem has_pos {l : List S69} (hs : Srt l) (s : ByteArray) : has l s = (decide (pos l s < l.length) && decide (nk (l.getD (pos l s) z69).f0 = nk s)) := by
  induction l with
  | nil => simp [has]
  | cons x l ih =>
    have hs' : Srt l := (List.pairwise_cons.1 hs).2
    have e : has (x :: l) s = (decide (nk x.f0 = nk s) || has l s) := rfl
    by_cases h : nk x.f0 < nk s
    · have hne : ¬ nk x.f0 = nk s := fun k => lt_irrefl _ (k ▸ h)
      rw [e, pos_cons_lt h, ih hs']
      simp [hne]
    · rw [pos_cons_ge hs h, e]
      have hl : nk x.f0 ≠ nk s → has l s = false := fun hne => by
        rw [Bool.eq_false_iff]
        intro k
        obtain ⟨y, hy, rfl⟩ := has_iff.1 k
        exact h ((List.pairwise_cons.1 hs).1 y hy)
      by_cases k : nk x.f0 = nk s
      · simp [k]
      · simp [k, hl k]
end Go.Proofs.Ytnaddmkaakdhoaa.Dk

end
