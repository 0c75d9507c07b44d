/-
  JournalScans, plainly: for every list of numbers and every text of at most 200 bytes behind the records that are made of it, the program's Scan and the reference's answer alike.
-/
import Derived.Test.YtnaddmkaakdhoaaJ3
import Derived.Test.YtnaddmkaakdhoaaXPs
namespace Go.Proofs.Ytnaddmkaakdhoaa.Pure
open Go.RowKit Go.Proofs.Ytnaddmkaakdhoaa.J Go.Proofs.YtnaddmkaakdhoaaW.PrintWords Go.Proofs.YtnaddmkaakdhoaaW.PrintLast

theorem JournalScans : corporalaw40_JournalScans.Pure := by
  intro l0 a1 h1 h2 h3 h4
  apply Ev.rounds
  unfold corporalaw40_JournalScans.f
  by_cases c : (a1.size : Int) > 200
  · refine Ev.congr (fun k => if_pos c) ?_
    exact Ev.now _
  · refine Ev.congr (fun k => if_neg c) ?_
    obtain ⟨m, hm, hml⟩ := new_f l0
    rw [hm]
    simp only [Option.bind_some]
    obtain ⟨x, a', hx, ha', hs, hxl⟩ := records_f m (by omega) 0 4 (by omega) (by omega) (by omega)
    refine Ev.bind hx ?_
    have hg : ∀ r ∈ x, Jl.Good (toR r) := fun r hr => small_good (hs r hr)
    have hts := text_size x hs
    refine Ev.bind (rencAll_f x (by omega)) ?_
    rw [encAll_text x hg]
    have hsz : (text x).size = (Jl.encAllL (x.map toR)).length := str_size _
    dsimp only
    refine Ev.congr (fun k => if_pos (by omega)) ?_
    rw [scan_f _ (by rw [ByteArray.size_append]; omega)]
    simp only [Option.bind_some]
    refine Ev.bind (rscan_f _ (by rw [ByteArray.size_append]; omega)) ?_
    have hl := scan_len (text x ++ a1)
    refine Ev.bind (same_f _ (by rw [ByteArray.size_append] at hl; omega)) ?_
    refine Ev.congr (fun k => if_pos rfl) ?_
    refine Ev.congr (fun k => if_pos rfl) ?_
    refine Ev.congr (fun k => if_pos rfl) ?_
    refine Ev.bind known_f ?_
    exact Ev.now _

end Go.Proofs.Ytnaddmkaakdhoaa.Pure
