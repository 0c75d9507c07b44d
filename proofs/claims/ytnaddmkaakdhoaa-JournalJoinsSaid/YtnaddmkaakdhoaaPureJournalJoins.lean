/-
  JournalJoins, plainly: for all numbers, the bytes of two lists of records are the bytes of both, one after the other.
-/
import Derived.Test.YtnaddmkaakdhoaaJ10
import Derived.Test.YtnaddmkaakdhoaaXPs
namespace Go.Proofs.Ytnaddmkaakdhoaa.Pure
open Go.RowKit Go.Proofs.Ytnaddmkaakdhoaa.J Go.Proofs.YtnaddmkaakdhoaaW.PrintWords Go.Proofs.YtnaddmkaakdhoaaW.PrintLast
set_option linter.unusedVariables false
set_option linter.unusedSimpArgs false

theorem text_app (x y : List S37) : text (x ++ y) = text x ++ text y := by
  unfold text
  rw [List.map_append, Jl.encAllL_app, str_app]

theorem JournalJoins : corporalaw40_JournalJoins.Pure := by
  intro l0 l1 _ _ _ _ _ _
  apply Ev.rounds
  unfold corporalaw40_JournalJoins.f
  obtain ⟨m, hm, hml⟩ := new_f l0
  obtain ⟨m', hm', hml'⟩ := new_f l1
  rw [hm]
  simp only [Option.bind_some]
  obtain ⟨x, a', hx, ha', hs, hxl⟩ := records_f m (by omega) 0 4 (by omega) (by omega) (by omega)
  obtain ⟨y, b', hy, hb', ht, hyl⟩ := records_f m' (by omega) 0 4 (by omega) (by omega) (by omega)
  refine Ev.bind hx ?_
  rw [hm']
  simp only [Option.bind_some]
  refine Ev.bind hy ?_
  have hgx : ∀ r ∈ x, Jl.Good (toR r) := fun r hr => small_good (hs r hr)
  have hgy : ∀ r ∈ y, Jl.Good (toR r) := fun r hr => small_good (ht r hr)
  have hgxy : ∀ r ∈ x ++ y, Jl.Good (toR r) := fun r hr => (List.mem_append.1 hr).elim (hgx r) (hgy r)
  have hxs := text_size x hs
  have hys := text_size y ht
  refine Ev.bind (pencAll_f x (by omega)) ?_
  rw [encAll_text x hgx]
  refine Ev.bind (pencAll_f y (by omega)) ?_
  rw [encAll_text y hgy]
  have zx : (text x).size = (Jl.encAllL (x.map toR)).length := str_size _
  have zy : (text y).size = (Jl.encAllL (y.map toR)).length := str_size _
  simp only [Option.bind_some]
  refine Ev.congr (fun k => if_pos (by simp; omega)) ?_
  refine Ev.congr (fun k => if_pos (by simp; omega)) ?_
  rw [List.nil_append]
  refine Ev.bind (pencAll_f (x ++ y) (by rw [List.length_append]; omega)) ?_
  rw [encAll_text (x ++ y) hgxy]
  refine Ev.congr (fun k => if_pos trivial) ?_
  refine Ev.congr (fun k => if_pos trivial) ?_
  refine Ev.congr (fun k => if_pos rfl) ?_
  refine Ev.congr (fun k => if_pos (by omega)) ?_
  refine Ev.congr (fun k => if_pos (by rw [text_app])) ?_
  refine Ev.bind known_f ?_
  exact Ev.now _

end Go.Proofs.Ytnaddmkaakdhoaa.Pure
