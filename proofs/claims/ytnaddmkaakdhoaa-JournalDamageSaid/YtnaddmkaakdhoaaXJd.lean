/-
  A damaged journal, on lists of bytes: one byte of the bytes of records is changed, not one of a record's length: what is read are the records ahead of the changed one. No condition but that the records are right ones.
-/
import Derived.Test.YtnaddmkaakdhoaaXJl
namespace Go.Proofs.Ytnaddmkaakdhoaa.Jl
open Crc (Byte)
set_option linter.unusedVariables false

/-- The byte is none of a record's length. -/
def Behind : List (Int × List Int) → Nat → Prop
  | [], _ => True
  | r :: X, i => ¬ i < 4 ∧ (9 + r.2.length ≤ i → Behind X (i - (9 + r.2.length)))

theorem bytes_set {l : List Int} (h : Bytes l) (i : Nat) {c : Int} (hc : Byte c) : Bytes (l.set i c) := by
  intro x hx
  rcases List.mem_or_eq_of_mem_set hx with h1 | h1
  · exact h x h1
  · rw [h1]; exact hc

theorem changed {k : Int} {p : List Int} (hk : k = 1 ∨ k = 2) (hp : p.length ≤ 1048576) (hb : Bytes p) (rest : List Int) (hrest : Bytes rest) (i : Nat) (hi4 : 4 ≤ i) (hi : i < (encL k p).length) (c : Int) (hc : Byte c)
    (hne : (encL k p ++ rest)[i]? ≠ some c) : nextL ((encL k p).set i c ++ rest) = none := by
  cases hn : nextL ((encL k p).set i c ++ rest) with
  | none => rfl
  | some q =>
    exfalso
    obtain ⟨k', p'⟩ := q
    have hkb : ∀ k : Int, k = 1 ∨ k = 2 → Byte k := by
      intro k hk
      unfold Byte
      rcases hk with e | e <;> rw [e] <;> omega
    obtain ⟨hk', hp', hb', rest', e⟩ := next_some (bytes_app (bytes_set (encL_bytes (hkb k hk) hb) i hc) hrest) hn
    have hlen := encL_len k p
    have hlen' := encL_len k' p'
    rw [List.getElem?_append_left hi] at hne
    have hd : (p.length : Int) = p'.length := by
      have h1 : dec4 ((encL k p).set i c ++ rest) = p.length := by
        have h2 : dec4 (encL k p ++ rest) = p.length := by
          unfold encL
          rw [List.append_assoc, List.append_assoc]
          exact dec4_be4 _ (by omega) (by omega) _
        rw [← h2]
        unfold dec4
        have g : ∀ j, j < 4 → ((encL k p).set i c ++ rest).getD j 0 = (encL k p ++ rest).getD j 0 := by
          intro j hj
          rw [List.getD_eq_getElem?_getD, List.getD_eq_getElem?_getD, List.getElem?_append_left (by rw [List.length_set]; omega), List.getElem?_append_left (by omega), List.getElem?_set_ne (by omega)]
        rw [g 0 (by omega), g 1 (by omega), g 2 (by omega), g 3 (by omega)]
      rw [← h1, e]
      unfold encL
      rw [List.append_assoc, List.append_assoc]
      exact dec4_be4 _ (by omega) (by omega) _
    obtain ⟨e1, _⟩ := List.append_inj e (by rw [List.length_set, hlen, hlen']; omega)
    have hsplit : ∀ (k : Int) (p : List Int), encL k p = be4 p.length ++ (be4 (Crc.sum (k :: p)) ++ (k :: p)) := by
      intro k p
      unfold encL
      rw [List.append_assoc]
    rw [hsplit k p, hsplit k' p', List.set_append_right (h := by rw [be4_len]; exact hi4), be4_len] at e1
    have e2 := (List.append_inj e1 rfl).2
    rw [hsplit k p, List.getElem?_append_right (by rw [be4_len]; exact hi4), be4_len] at hne
    by_cases c8 : i < 8
    · rw [List.set_append_left (h := by rw [be4_len]; omega)] at e2
      obtain ⟨e3, e4⟩ := List.append_inj e2 (by rw [List.length_set]; rfl)
      rw [← e4] at e3
      rw [List.getElem?_append_left (by rw [be4_len]; omega)] at hne
      apply hne
      rw [← e3, List.getElem?_set_self (by rw [be4_len]; omega)]
    · rw [List.set_append_right (h := by rw [be4_len]; omega), be4_len] at e2
      obtain ⟨e3, e4⟩ := List.append_inj e2 rfl
      have hs : Crc.sum (k :: p) = Crc.sum (k' :: p') := by
        have b1 := Crc.sum_bound (k :: p)
        have b2 := Crc.sum_bound (k' :: p')
        have := dec4_be4 (Crc.sum (k :: p)) b1.1 b1.2 []
        rw [e3, dec4_be4 _ b2.1 b2.2] at this
        exact this.symm
      rw [List.getElem?_append_right (by rw [be4_len]; omega), be4_len] at hne
      have hj : i - 4 - 4 < (k :: p).length := by simp; omega
      rw [← e4] at hs
      have hsp : (k :: p) = (k :: p).take (i - 4 - 4) ++ (k :: p)[i - 4 - 4] :: (k :: p).drop (i - 4 - 4 + 1) := by
        rw [List.getElem_cons_drop, List.take_append_drop]
      have hset : (k :: p).set (i - 4 - 4) c = (k :: p).take (i - 4 - 4) ++ c :: (k :: p).drop (i - 4 - 4 + 1) := by
        rw [List.set_eq_take_append_cons_drop, if_pos hj]
      have hbk : Bytes (k :: p) := by
        intro x hx
        rcases List.mem_cons.1 hx with rfl | hx
        · exact hkb _ hk
        · exact hb x hx
      have hold := hbk _ (List.getElem_mem hj)
      rw [hset] at hs
      have hs2 : Crc.sum ((k :: p).take (i - 4 - 4) ++ (k :: p)[i - 4 - 4] :: (k :: p).drop (i - 4 - 4 + 1)) = Crc.sum ((k :: p).take (i - 4 - 4) ++ c :: (k :: p).drop (i - 4 - 4 + 1)) := by
        rw [← hsp]; exact hs
      have := Crc.sum_one hold.1 hold.2 hc.1 hc.2 hs2
      apply hne
      rw [List.getElem?_eq_getElem hj, this]

theorem damaged_scan : ∀ (X : List (Int × List Int)) (i : Nat) (c : Int), (∀ r ∈ X, Good r) → Byte c → i < (encAllL X).length → Behind X i → (encAllL X)[i]? ≠ some c →
    ∃ (j : Nat) (R : List Int), j ≤ X.length ∧ (encAllL X).set i c = encAllL (X.take j) ++ R ∧ nextL R = none ∧ (encAllL (X.take j)).length ≤ i
  | [], i, c, _, _, hi, _, _ => by simp [encAllL] at hi
  | r :: X, i, c, hg, hc, hi, hbh, hne => by
    have hr := hg r (by simp)
    have hlen := encL_len r.1 r.2
    obtain ⟨h4, hbh'⟩ := hbh
    simp only [encAllL] at hi hne ⊢
    by_cases c1 : i < (encL r.1 r.2).length
    · refine ⟨0, (encL r.1 r.2).set i c ++ encAllL X, by simp, ?_, ?_, by simp [encAllL]⟩
      · rw [List.take_zero, List.set_append_left (h := c1)]
        simp only [encAllL, List.nil_append]
      exact changed hr.1 hr.2.1 hr.2.2 _ (encAllL_bytes fun x hx => hg x (by simp [hx])) i (by omega) c1 c hc hne
    · rw [List.length_append] at hi
      rw [List.getElem?_append_right (by omega)] at hne
      obtain ⟨j, R, h1, h2, h3, h5⟩ := damaged_scan X (i - (encL r.1 r.2).length) c (fun x hx => hg x (by simp [hx])) hc (by omega) (by rw [hlen]; exact hbh' (by omega)) hne
      refine ⟨j + 1, R, by simpa using h1, ?_, h3, ?_⟩
      · rw [List.set_append_right (h := by omega), h2, List.take_succ_cons]
        simp only [encAllL, List.append_assoc]
      · rw [List.take_succ_cons]
        simp only [encAllL, List.length_append]
        omega

end Go.Proofs.Ytnaddmkaakdhoaa.Jl
