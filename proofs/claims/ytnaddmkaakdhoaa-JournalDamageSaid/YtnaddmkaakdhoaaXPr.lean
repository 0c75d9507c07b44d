/-
  Records that are made of numbers: they are few, short and of a right kind.
-/
import Derived.Test.YtnaddmkaakdhoaaJA
import Derived.Test.YtnaddmkaakdhoaaXPe
namespace Go.Proofs.Ytnaddmkaakdhoaa.J
open Go.RowKit Go.Proofs.YtnaddmkaakdhoaaW.PrintWords Go.Proofs.YtnaddmkaakdhoaaW.PrintLast Go.Proofs.YtnaddmkaakdhoaaW.PrintMore
open Jl
set_option linter.unusedVariables false
set_option linter.unusedSimpArgs false

theorem mod_f (x n : Int) (h0 : 1 ≤ n) (h1 : n ≤ 1000000) : ∃ v, corporamade_Mod.f x n = some v ∧ 0 ≤ v ∧ v < n := by
  unfold corporamade_Mod.f
  rw [if_neg (by omega), if_neg (by omega)]
  have a := Int.tmod_lt_of_pos x (show 0 < n by omega)
  have b := Int.lt_tmod_of_pos x (show 0 < n by omega)
  by_cases c : Int.tmod x n < 0
  · rw [if_pos c]
    refine ⟨_, rfl, ?_⟩
    unfold wrap64
    omega
  · rw [if_neg c]
    exact ⟨_, rfl, by omega, a⟩

theorem tnext_f (l : List Int) (at_ n : Int) (hl : l.length ≤ 1000000) (h0 : 0 ≤ at_) (hn0 : 1 ≤ n) (hn1 : n ≤ 1000000) : ∃ v a', corporamade_Tape_Next.f l at_ n = some (v, a') ∧ 0 ≤ v ∧ v < n ∧ 0 ≤ a' := by
  unfold corporamade_Tape_Next.f
  by_cases c : at_ ≥ (l.length : Int)
  · rw [if_pos c]
    exact ⟨0, at_, rfl, by omega, by omega, h0⟩
  · rw [if_neg c]
    have e : wrap64 (wrap64 (at_ + 1) - 1) = at_ := by unfold wrap64; omega
    rw [e, if_pos h0, if_pos (by omega)]
    obtain ⟨v, hv, a, b⟩ := mod_f (rd l at_) n hn0 hn1
    rw [hv]
    simp only [Option.bind_some]
    exact ⟨v, _, rfl, a, b, by unfold wrap64; omega⟩

def Small (r : S37) : Prop := (r.f0 = 1 ∨ r.f0 = 2) ∧ r.f1.size ≤ 7

theorem rec_l1 (l : List Int) (hl : l.length ≤ 1000000) (c : Int) (hc : 0 ≤ c) (hc1 : c ≤ 1000) (M : Nat)
    (P0 : ∀ (x5 : List S37) (a : Int), 0 ≤ a → x5.length ≤ M + 1 → (∀ r ∈ x5, Small r) → ∃ x a', Ev (fun k => corporalaw40_records.l0 k x5 c l a) (x, a') ∧ 0 ≤ a' ∧ (∀ r ∈ x, Small r) ∧ x.length ≤ x5.length + c.toNat)
    (x5 : List S37) (hx5 : x5.length ≤ M) (hM : M ≤ 1000) (hs : ∀ r ∈ x5, Small r) (kind : Int) (hk : kind = 1 ∨ kind = 2) :
    ∀ (j : Nat) (a : Int) (pay : ByteArray), 0 ≤ a → pay.size + j ≤ 7 → ∃ x a', Ev (fun k => corporalaw40_records.l1 k x5 (c + 1) (j : Int) l a kind pay) (x, a') ∧ 0 ≤ a' ∧ (∀ r ∈ x, Small r) ∧ x.length ≤ x5.length + 1 + c.toNat
  | 0, a, pay, ha, hp => by
    have hs' : ∀ r ∈ x5 ++ [(⟨kind, pay⟩ : S37)], Small r := by
      intro r hr
      rcases List.mem_append.1 hr with h | h
      · exact hs r h
      · rw [List.mem_singleton.1 h]
        exact ⟨hk, by simpa using hp⟩
    obtain ⟨x, a', h1, h2, h3, h4⟩ := P0 (x5 ++ [(⟨kind, pay⟩ : S37)]) a ha (by simp; omega) hs'
    refine ⟨x, a', ?_, h2, h3, by simp at h4; omega⟩
    refine Ev.step (fun k => by simp only [corporalaw40_records.l1]; exact rfl) ?_
    refine Ev.congr (fun k => if_neg (by omega)) ?_
    refine Ev.congr (fun k => if_pos (by omega)) ?_
    rw [show wrap64 (c + 1 - 1) = c by unfold wrap64; omega]
    exact h1
  | j + 1, a, pay, ha, hp => by
    obtain ⟨v, a1, hv, v0, v1, ha1⟩ := tnext_f l a 6 hl ha (by omega) (by omega)
    obtain ⟨x, a', h1, h2⟩ := rec_l1 l hl c hc hc1 M P0 x5 hx5 hM hs kind hk j a1 (pay ++ strOfNums [(rd [0, 1, 97, 98, 255, 128] v) % 256]) ha1 (by rw [ByteArray.size_append, strOfNums_size]; simp; omega)
    refine ⟨x, a', ?_, h2⟩
    refine Ev.step (fun k => by simp only [corporalaw40_records.l1]; exact rfl) ?_
    refine Ev.congr (fun k => if_pos (by omega)) ?_
    rw [hv]
    simp only [Option.bind_some]
    refine Ev.congr (fun k => if_pos v0) ?_
    refine Ev.congr (fun k => if_pos (by simp; omega)) ?_
    refine Ev.congr (fun k => if_pos (by rw [strOfNums_size]; simp; omega)) ?_
    rw [show wrap64 (((j + 1 : Nat) : Int) - 1) = (j : Int) by unfold wrap64; omega]
    exact h1

theorem rec_l0 (l : List Int) (hl : l.length ≤ 1000000) : ∀ (c : Nat) (x5 : List S37) (a : Int), c + x5.length ≤ 1000 → 0 ≤ a → (∀ r ∈ x5, Small r) →
    ∃ x a', Ev (fun k => corporalaw40_records.l0 k x5 (c : Int) l a) (x, a') ∧ 0 ≤ a' ∧ (∀ r ∈ x, Small r) ∧ x.length ≤ x5.length + c
  | 0, x5, a, hc, ha, hs => by
    refine ⟨x5, a, ?_, ha, hs, by omega⟩
    refine Ev.step (fun k => by simp only [corporalaw40_records.l0]; exact rfl) ?_
    refine Ev.congr (fun k => if_neg (by omega)) ?_
    exact Ev.now _
  | c + 1, x5, a, hc, ha, hs => by
    obtain ⟨v, a1, hv, v0, v1, ha1⟩ := tnext_f l a 2 hl ha (by omega) (by omega)
    obtain ⟨u, a2, hu, u0, u1, ha2⟩ := tnext_f l a1 8 hl ha1 (by omega) (by omega)
    obtain ⟨j, rfl⟩ := Int.eq_ofNat_of_zero_le u0
    obtain ⟨x, a', h1, h2, h3, h4⟩ := rec_l1 l hl c (by omega) (by omega) x5.length (fun y b hb hy hsy => by
      obtain ⟨x, a', g1, g2, g3, g4⟩ := rec_l0 l hl c y b (by omega) hb hsy
      exact ⟨x, a', g1, g2, g3, by omega⟩) x5 (Nat.le_refl _) (by omega) hs (wrap64 (1 + v)) (by unfold wrap64; omega) j a2 (⟨#[]⟩ : ByteArray) ha2 (by simp [ByteArray.size]; omega)
    refine ⟨x, a', ?_, h2, h3, by omega⟩
    refine Ev.step (fun k => by simp only [corporalaw40_records.l0]; exact rfl) ?_
    refine Ev.congr (fun k => if_pos (by omega)) ?_
    rw [hv]
    simp only [Option.bind_some]
    rw [hu]
    simp only [Option.bind_some]
    exact h1

theorem records_f (l : List Int) (hl : l.length ≤ 1000000) (a most : Int) (ha : 0 ≤ a) (h0 : 0 ≤ most) (h1 : most ≤ 900) :
    ∃ x a', Ev (fun k => corporalaw40_records.f k l a most) (x, a') ∧ 0 ≤ a' ∧ (∀ r ∈ x, Small r) ∧ x.length ≤ most := by
  unfold corporalaw40_records.f
  rw [show wrap64 (most + 1) = most + 1 by unfold wrap64; omega]
  obtain ⟨v, a1, hv, v0, v1, ha1⟩ := tnext_f l a (most + 1) hl ha (by omega) (by omega)
  obtain ⟨c, rfl⟩ := Int.eq_ofNat_of_zero_le v0
  obtain ⟨x, a', g1, g2, g3, g4⟩ := rec_l0 l hl c [] a1 (by simp; omega) ha1 (by simp)
  refine ⟨x, a', ?_, g2, g3, by simp at g4; omega⟩
  rw [hv]
  simp only [Option.bind_some]
  exact g1

theorem new_f (l : List Int) : ∃ m, corporamade_New.f l = some (m, 0) ∧ m.length ≤ 120 := by
  unfold corporamade_New.f
  by_cases c : (l.length : Int) > 120
  · rw [if_pos c, if_pos (by omega)]
    exact ⟨_, rfl, by rw [List.length_take]; omega⟩
  · rw [if_neg c]
    exact ⟨l, rfl, by omega⟩

theorem small_good {r : S37} (h : Small r) : Jl.Good (toR r) := ⟨h.1, by show (bytesOf r.f1).length ≤ _; rw [bytesOf_length]; have := h.2; omega, bytesOf_bytes _⟩

theorem text_size : ∀ (x : List S37), (∀ r ∈ x, Small r) → (encAllL (x.map toR)).length ≤ 16 * x.length
  | [], _ => by simp [encAllL]
  | r :: x, h => by
    have ih := text_size x fun y hy => h y (by simp [hy])
    have hr := (h r (by simp)).2
    simp only [List.map_cons, encAllL, List.length_append, encL_len, List.length_cons]
    have : (toR r).2.length = r.f1.size := bytesOf_length _
    omega

end Go.Proofs.Ytnaddmkaakdhoaa.J
