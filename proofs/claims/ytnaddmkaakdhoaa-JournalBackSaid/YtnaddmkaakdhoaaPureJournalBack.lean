/-
  JournalBack, plainly: for every list of numbers, the records that are made of it are found again.
-/
import Derived.Test.YtnaddmkaakdhoaaJ8
import Derived.Test.YtnaddmkaakdhoaaXPt
namespace Go.Proofs.Ytnaddmkaakdhoaa.Pure
open Go.RowKit Go.Proofs.Ytnaddmkaakdhoaa.J Go.Proofs.YtnaddmkaakdhoaaW.PrintWords Go.Proofs.YtnaddmkaakdhoaaW.PrintLast

theorem JournalBack : corporalaw40_JournalBack.Pure := by
  intro l0 h1 h2 h3
  apply Ev.rounds
  unfold corporalaw40_JournalBack.f
  obtain ⟨m, hm, hml⟩ := new_f l0
  rw [hm]
  simp only [Option.bind_some]
  obtain ⟨x, a', hx, ha', hs, hxl⟩ := records_f m (by omega) 0 6 (by omega) (by omega) (by omega)
  refine Ev.bind hx ?_
  have hg : ∀ r ∈ x, Jl.Good (toR r) := fun r hr => small_good (hs r hr)
  have hts := text_size x hs
  refine Ev.bind (pencAll_f x (by omega)) ?_
  rw [encAll_text x hg]
  have hsz : (text x).size = (Jl.encAllL (x.map toR)).length := str_size _
  dsimp only
  rw [scan_f _ (by omega), scan_text x hg]
  simp only [Option.bind_some]
  refine Ev.congr (fun k => if_pos trivial) ?_
  refine Ev.bind (same_f _ (by omega)) ?_
  refine Ev.congr (fun k => if_pos rfl) ?_
  refine Ev.congr (fun k => if_pos trivial) ?_
  refine Ev.congr (fun k => if_pos trivial) ?_
  refine Ev.bind known_f ?_
  exact Ev.now _

end Go.Proofs.Ytnaddmkaakdhoaa.Pure
