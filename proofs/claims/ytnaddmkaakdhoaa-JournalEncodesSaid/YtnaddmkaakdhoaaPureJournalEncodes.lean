/-
  JournalEncodes, plainly: for every list of numbers and every list of at most six records of at most 200 bytes, the program's bytes and errors are the reference's.
-/
import Derived.Test.YtnaddmkaakdhoaaJ6
import Derived.Test.YtnaddmkaakdhoaaXPs
namespace Go.Proofs.Ytnaddmkaakdhoaa.Pure
open Go.RowKit Go.Proofs.Ytnaddmkaakdhoaa.J Go.Proofs.YtnaddmkaakdhoaaW.PrintWords Go.Proofs.YtnaddmkaakdhoaaW.PrintLast
set_option linter.unusedVariables false
set_option linter.unusedSimpArgs false

theorem enc_l1 (x : List S37) (hx : x.length ≤ 1000) : ∀ (d i : Nat), i ≤ x.length → x.length - i = d → Ev (fun k => corporalaw40_JournalEncodes.l1 k x (x.length : Int) (i : Int)) true
  | 0, i, hi, hd => by
    refine Ev.step (fun k => by simp only [corporalaw40_JournalEncodes.l1]; exact rfl) ?_
    refine Ev.congr (fun k => if_neg (by omega)) ?_
    refine Ev.bind known_f ?_
    exact Ev.now _
  | d + 1, i, hi, hd => by
    refine Ev.step (fun k => by simp only [corporalaw40_JournalEncodes.l1]; exact rfl) ?_
    refine Ev.congr (fun k => if_pos (by omega)) ?_
    refine Ev.congr (fun k => if_pos (by omega)) ?_
    refine Ev.congr (fun k => if_pos (by omega)) ?_
    refine Ev.bind (penc_f _ _) ?_
    refine Ev.bind (renc_f _ _) ?_
    refine Ev.congr (fun k => if_pos rfl) ?_
    refine Ev.congr (fun k => if_pos rfl) ?_
    rw [show wrap64 ((i : Int) + 1) = ((i + 1 : Nat) : Int) by unfold wrap64; omega]
    exact enc_l1 x hx d (i + 1) (by omega) (by omega)

theorem enc_l0 (l0 : List Int) (l1 : List S37) (h6 : l1.length ≤ 6) : ∀ (d i : Nat), i ≤ l1.length → l1.length - i = d → Ev (fun k => corporalaw40_JournalEncodes.l0 k l0 l1 l1 (l1.length : Int) (i : Int)) true
  | 0, i, hi, hd => by
    refine Ev.step (fun k => by simp only [corporalaw40_JournalEncodes.l0]; exact rfl) ?_
    refine Ev.congr (fun k => if_neg (by omega)) ?_
    obtain ⟨m, hm, hml⟩ := new_f l0
    rw [hm]
    simp only [Option.bind_some]
    obtain ⟨x, a', hx, ha', hs, hxl⟩ := records_f m (by omega) 0 4 (by omega) (by omega) (by omega)
    refine Ev.bind hx ?_
    refine Ev.congr (fun k => if_pos (by dsimp only; omega)) ?_
    have hl : (x ++ l1).length ≤ 1000 := by rw [List.length_append]; omega
    simp only [Option.bind_some]
    refine Ev.bind (pencAll_f _ hl) ?_
    refine Ev.bind (rencAll_f _ hl) ?_
    refine Ev.congr (fun k => if_pos rfl) ?_
    simp only [bne_self_eq_false]
    refine Ev.step (fun k => by simp only [corporalaw40_JournalEncodes.j1]; exact rfl) ?_
    refine Ev.congr (fun k => if_neg (by simp)) ?_
    exact enc_l1 _ hl _ 0 (by omega) rfl
  | d + 1, i, hi, hd => by
    refine Ev.step (fun k => by simp only [corporalaw40_JournalEncodes.l0]; exact rfl) ?_
    refine Ev.congr (fun k => if_pos (by omega)) ?_
    refine Ev.congr (fun k => if_pos (by omega)) ?_
    refine Ev.congr (fun k => if_pos (by omega)) ?_
    by_cases c : ((rd_T37 l1 (i : Int)).f1.size : Int) > 200
    · refine Ev.congr (fun k => if_pos c) ?_
      exact Ev.now _
    · refine Ev.congr (fun k => if_neg c) ?_
      rw [show wrap64 ((i : Int) + 1) = ((i + 1 : Nat) : Int) by unfold wrap64; omega]
      exact enc_l0 l0 l1 h6 d (i + 1) (by omega) (by omega)

theorem JournalEncodes (l0 : List Int) (l1 : List S37) : ∃ k, corporalaw40_JournalEncodes.f k l0 l1 = some true := by
  apply Ev.rounds
  unfold corporalaw40_JournalEncodes.f
  by_cases c : (l1.length : Int) > 6
  · refine Ev.congr (fun k => if_pos c) ?_
    exact Ev.now _
  · refine Ev.congr (fun k => if_neg c) ?_
    exact enc_l0 l0 l1 (by omega) _ 0 (by omega) rfl

end Go.Proofs.Ytnaddmkaakdhoaa.Pure
