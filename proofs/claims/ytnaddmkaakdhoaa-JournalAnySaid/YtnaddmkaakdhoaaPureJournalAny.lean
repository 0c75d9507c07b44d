/-
  JournalAny, plainly: for every text of at most 300 bytes, the records found, written again, are its beginning.
-/
import Derived.Test.YtnaddmkaakdhoaaJ11
import Derived.Test.YtnaddmkaakdhoaaXPt
namespace Go.Proofs.Ytnaddmkaakdhoaa.Pure
open Go.RowKit Go.Proofs.Ytnaddmkaakdhoaa.J Go.Proofs.YtnaddmkaakdhoaaW.PrintWords Go.Proofs.YtnaddmkaakdhoaaW.PrintLast

theorem JournalAny : corporalaw40_JournalAny.Pure := by
  intro a0 h1
  apply Ev.rounds
  unfold corporalaw40_JournalAny.f
  by_cases c : (a0.size : Int) > 300
  · refine Ev.congr (fun k => if_pos c) ?_
    exact Ev.now _
  · refine Ev.congr (fun k => if_neg c) ?_
    obtain ⟨g1, g2, g3, g4, g5⟩ := scan_any a0
    have hl := scan_len a0
    rw [scan_f _ (by omega)]
    simp only [Option.bind_some]
    refine Ev.bind (pencAll_f _ (by omega)) ?_
    rw [encAll_text _ g1]
    refine Ev.congr (fun k => if_pos rfl) ?_
    refine Ev.congr (fun k => if_pos g2) ?_
    refine Ev.congr (fun k => if_pos g3) ?_
    refine Ev.congr (fun k => if_pos (by omega)) ?_
    refine Ev.congr (fun k => if_pos (by rw [g4])) ?_
    refine Ev.congr (fun k => if_pos ?_) ?_
    · rw [beq_iff_eq, Bool.eq_iff_iff, beq_iff_eq, beq_iff_eq]
      exact g5
    refine Ev.bind known_f ?_
    exact Ev.now _

end Go.Proofs.Ytnaddmkaakdhoaa.Pure
