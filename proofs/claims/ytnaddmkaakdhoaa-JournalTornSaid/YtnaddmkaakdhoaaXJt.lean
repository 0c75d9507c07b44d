/-
  A torn journal, on lists of bytes: of the bytes of records a beginning is left, of which at most four bytes at the end are zero: what is read are the first records, all that are whole and untouched, and what follows is torn. No condition but that the records are right ones.
-/
import Derived.Test.YtnaddmkaakdhoaaXJl
namespace Go.Proofs.Ytnaddmkaakdhoaa.Jl
open Crc (Byte)
set_option linter.unusedVariables false

/-- What follows is not damaged. -/
def Torn (R : List Int) : Prop := R = [] ∨ R.length < 9 ∨ (R.length : Int) < 9 + dec4 R ∨ R.getLast? = some 0

theorem zeros_bytes (z : Nat) : Bytes (List.replicate z 0) := by
  intro c hc
  rw [List.eq_of_mem_replicate hc]
  unfold Byte
  omega

theorem dec4_prefix {a b a' b' : List Int} (h : 4 ≤ a.length) (e : a.take 4 = a'.take 4) (h' : 4 ≤ a'.length) : dec4 (a ++ b) = dec4 (a' ++ b') := by
  match a, h, a', h' with
  | x :: y :: u :: v :: t, _, x' :: y' :: u' :: v' :: t', _ =>
    simp only [List.take_succ_cons, List.take_zero, List.cons.injEq, and_true] at e
    obtain ⟨rfl, rfl, rfl, rfl⟩ := e
    rfl

theorem dec4_enc (k : Int) (p r : List Int) (h : p.length ≤ 1048576) : dec4 (encL k p ++ r) = p.length := by
  unfold encL
  rw [List.append_assoc, List.append_assoc]
  exact dec4_be4 _ (by omega) (by omega) _

/-- A record of which at most four bytes at its end became zeros is no record any more, or it is the same. -/
theorem touched {k k' : Int} {p p' A B rest : List Int} (hp : p.length ≤ 1048576) (hp' : p'.length ≤ 1048576) (hb : Bytes p) (hk : Byte k) (hb' : Bytes p') (hk' : k' = 1 ∨ k' = 2)
    (hA : 5 ≤ A.length) (hB : B.length ≤ 4) (e : encL k p = A ++ B) (e' : encL k' p' ++ rest = A ++ List.replicate B.length 0 ++ rest) (hl : p.length = p'.length) : encL k' p' = encL k p := by
  have e1 : encL k' p' = A ++ List.replicate B.length 0 := List.append_cancel_right e'
  have l1 := congrArg List.length e
  have l2 := congrArg List.length e1
  rw [encL_len, List.length_append] at l1
  have hsplit : ∀ (k : Int) (p : List Int), encL k p = (be4 p.length ++ be4 (Crc.sum (k :: p))) ++ (k :: p) := fun _ _ => rfl
  have h8 : ∀ (n m : Int), (be4 n ++ be4 m).length = 8 := fun _ _ => rfl
  by_cases c : 8 ≤ A.length
  · -- the sums are the same
    have t1 : (be4 p.length ++ be4 (Crc.sum (k :: p))) = A.take 8 := by
      have := congrArg (List.take 8) e
      rw [hsplit, List.take_left' (h8 _ _), List.take_append_of_le_length c] at this
      exact this
    have t2 : (be4 p'.length ++ be4 (Crc.sum (k' :: p'))) = A.take 8 := by
      have := congrArg (List.take 8) e1
      rw [hsplit, List.take_left' (h8 _ _), List.take_append_of_le_length c] at this
      exact this
    have d1 : k :: p = A.drop 8 ++ B := by
      have := congrArg (List.drop 8) e
      rw [hsplit, List.drop_left' (h8 _ _), List.drop_append_of_le_length c] at this
      exact this
    have d2 : k' :: p' = A.drop 8 ++ List.replicate B.length 0 := by
      have := congrArg (List.drop 8) e1
      rw [hsplit, List.drop_left' (h8 _ _), List.drop_append_of_le_length c] at this
      exact this
    have hsum : Crc.sum (k :: p) = Crc.sum (k' :: p') := by
      have e3 := t1.trans t2.symm
      have e4 := (List.append_inj e3 rfl).2
      have b1 := Crc.sum_bound (k :: p)
      have b2 := Crc.sum_bound (k' :: p')
      have := dec4_be4 (Crc.sum (k :: p)) b1.1 b1.2 []
      rw [e4, dec4_be4 _ b2.1 b2.2] at this
      exact this.symm
    have hBb : Bytes B := by
      have : Bytes (k :: p) := by
        intro c hc
        rcases List.mem_cons.1 hc with rfl | hc
        · exact hk
        · exact hb c hc
      rw [d1] at this
      exact bytes_right this
    rw [d1, d2] at hsum
    have hBz := Crc.sum_tail (p := A.drop 8) (l := B) (m := List.replicate B.length 0) (by simp) hB hBb (zeros_bytes _) hsum
    rw [e1, e, ← hBz]
  · -- the kind became zero
    exfalso
    have g : (encL k' p')[8]? = some k' := by
      rw [hsplit, List.getElem?_append_right (by rw [h8]; omega), h8]
      rfl
    rw [e1, List.getElem?_append_right (by omega), List.getElem?_replicate] at g
    split at g
    · simp only [Option.some.injEq] at g
      omega
    · cases g

theorem torn_scan : ∀ (X : List (Int × List Int)) (n z : Nat), (∀ r ∈ X, Good r) → n ≤ (encAllL X).length → z ≤ n → z ≤ 4 →
    ∃ (j : Nat) (R : List Int), j ≤ X.length ∧ (encAllL X).take (n - z) ++ List.replicate z 0 = encAllL (X.take j) ++ R ∧ nextL R = none ∧ Torn R ∧ (encAllL (X.take j)).length ≤ n ∧ (j < X.length → n - z < (encAllL (X.take (j + 1))).length)
  | [], n, z, _, hn, hz, h4 => by
    simp only [encAllL, List.length_nil] at hn
    obtain rfl : n = 0 := by omega
    obtain rfl : z = 0 := by omega
    exact ⟨0, [], by simp, by simp [encAllL], next_short (by simp), .inl rfl, by simp [encAllL], by simp⟩
  | r :: X, n, z, hg, hn, hz, h4 => by
    obtain ⟨k, p⟩ := r
    have hr := hg (k, p) (by simp)
    have hk : k = 1 ∨ k = 2 := hr.1
    have hp : p.length ≤ 1048576 := hr.2.1
    have hb : Bytes p := hr.2.2
    have hkb : Byte k := by unfold Byte; rcases hk with e | e <;> rw [e] <;> omega
    have hlen := encL_len k p
    simp only [encAllL, List.length_append] at hn
    by_cases c : (encL k p).length ≤ n - z
    · -- the record is whole
      obtain ⟨j, R, h1, h2, h3, h4', h5, h6⟩ := torn_scan X (n - (encL k p).length) z (fun x hx => hg x (by simp [hx])) (by omega) (by omega) h4
      refine ⟨j + 1, R, by simpa using h1, ?_, h3, h4', ?_, ?_⟩
      · simp only [encAllL, List.take_succ_cons]
        rw [List.take_append, List.take_of_length_le c, List.append_assoc, List.append_assoc, ← h2]
        congr 3
        omega
      · simp only [encAllL, List.take_succ_cons, List.length_append]; omega
      · intro hj
        have := h6 (by simpa using hj)
        simp only [encAllL, List.take_succ_cons, List.length_append] at this ⊢
        omega
    · -- it is touched
      have hD : (encAllL ((k, p) :: X)).take (n - z) = (encL k p).take (n - z) := by
        simp only [encAllL]
        rw [List.take_append_of_le_length (by omega)]
      have hDl : ((encL k p).take (n - z)).length = n - z := by rw [List.length_take]; omega
      have hlast : 0 < z → ((encL k p).take (n - z) ++ List.replicate z 0).getLast? = some 0 := by
        intro h
        obtain ⟨y, rfl⟩ : ∃ y, z = y + 1 := ⟨z - 1, by omega⟩
        rw [List.replicate_succ', ← List.append_assoc, List.getLast?_append]
        simp
      rw [hD]
      cases hnx : nextL ((encL k p).take (n - z) ++ List.replicate z 0) with
      | none =>
        refine ⟨0, _, by simp, by simp [encAllL], hnx, ?_, by simp [encAllL], ?_⟩
        · by_cases hz0 : 0 < z
          · exact .inr (.inr (.inr (hlast hz0)))
          · obtain rfl : z = 0 := by omega
            simp only [List.replicate_zero, List.append_nil, Nat.sub_zero] at *
            by_cases h9 : n < 9
            · exact .inr (.inl (by omega))
            · refine .inr (.inr (.inl ?_))
              have e := dec4_prefix (a := (encL k p).take n) (b := []) (a' := encL k p) (b' := []) (by omega) (by rw [List.take_take]; congr 1; omega) (by omega)
              rw [List.append_nil, dec4_enc k p [] hp] at e
              rw [e]
              omega
        · intro _
          simp only [encAllL, List.take_succ_cons, List.length_append]
          omega
      | some q =>
        obtain ⟨k', p'⟩ := q
        have hbD : Bytes ((encL k p).take (n - z) ++ List.replicate z 0) := bytes_app (fun c hc => encL_bytes hkb hb c (List.mem_of_mem_take hc)) (zeros_bytes z)
        obtain ⟨hk', hp', hb', rest, e⟩ := next_some hbD hnx
        have el := congrArg List.length e
        rw [List.length_append, List.length_append, hDl, List.length_replicate, encL_len] at el
        have ed : (p'.length : Int) = p.length := by
          have e2 := dec4_prefix (a := (encL k p).take (n - z)) (b := List.replicate z 0) (a' := encL k p) (b' := []) (by omega) (by rw [List.take_take]; congr 1; omega) (by omega)
          rw [e, dec4_enc k' p' _ hp', dec4_enc k p [] hp] at e2
          exact e2
        have hB : ((encL k p).drop (n - z)).length = 9 + p.length - (n - z) := by rw [List.length_drop, encL_len]
        have hzz : List.replicate z (0 : Int) = List.replicate ((encL k p).drop (n - z)).length 0 ++ List.replicate (z - ((encL k p).drop (n - z)).length) 0 := by
          rw [List.replicate_append_replicate]
          congr 1
          omega
        have hrest : rest = List.replicate (z - ((encL k p).drop (n - z)).length) 0 := by
          have e3 := e
          rw [hzz, ← List.append_assoc] at e3
          exact (List.append_inj e3.symm (by rw [encL_len, List.length_append, hDl, List.length_replicate]; omega)).2
        have hsame := touched (A := (encL k p).take (n - z)) (B := (encL k p).drop (n - z)) (rest := rest) hp hp' hb hkb hb' hk' (by omega) (by omega) (List.take_append_drop _ _).symm (by
          rw [← e, hzz, ← List.append_assoc, hrest]) (by omega)
        refine ⟨1, rest, by simp, ?_, next_short ?_, ?_, ?_, ?_⟩
        · rw [e, hsame]
          simp [encAllL]
        · rw [hrest, List.length_replicate]; omega
        · refine .inr (.inl ?_)
          rw [hrest, List.length_replicate]; omega
        · simp only [List.take_succ_cons, List.take_zero, encAllL, List.append_nil]
          omega
        · intro h1
          simp only [List.length_cons] at h1
          match X, h1 with
          | _ :: _, _ =>
            simp only [List.take_succ_cons, List.take_zero, encAllL, List.append_nil, List.length_append]
            omega

end Go.Proofs.Ytnaddmkaakdhoaa.Jl
