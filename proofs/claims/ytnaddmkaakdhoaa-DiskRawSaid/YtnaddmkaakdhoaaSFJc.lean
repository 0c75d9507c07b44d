/-
  Texts of this claim, joined, without what the claim does not use: XRow
-/
import Derived.Deep.Slices
import Derived.Lib.SmallJoins
import Derived.DataReads
import Derived.Test.YtnaddmkaakdhoaaSFJb
section
namespace Go.Proofs.Ytnaddmkaakdhoaa.J
open Go.RowKit Go.ChangeShapes Go.WideShapes Go.ChangeAt Go.Proofs.YtnaddmkaakdhoaaW.PrintWords Go.Proofs.YtnaddmkaakdhoaaW.PrintLast Go.Proofs.YtnaddmkaakdhoaaW.PrintMore
set_option linter.unusedVariables false
set_option linter.unusedSimpArgs false

section
variable {H : Type} {enc : TypeId × Value → H} {w : World} {base : Nat} {spare : Nat → Bool} {held : Bool}

theorem C_of_trod {α : Type} [Inhabited α] (d : Kd α) {t e : TypeId} (ht : Try.prog.underlying t = some (.slice e)) (hc : Try.prog.cellsOf e = d.sz)
    (hE : ∀ (n : Nat) (cs : List Value) (x : DataW H × List MemPlace), DataW.trod enc Try.prog w base spare held n e cs = some x → ∃ p, d.K w p cs)
    {fuel : Nat} {A : Option Addr} {len cap : Nat} {x : DataW H × List MemPlace} (h : DataW.trod enc Try.prog w base spare held fuel t [.slice A len cap] = some x) :
    ∃ xs : List α, xs.length = len ∧ len ≤ cap ∧ Kd.C d w A xs.length xs := by
  rcases Deep.open_slice ht h with ⟨hcs, _⟩ | ⟨a, len', cap', m, n, D, Pl, hcs, _, hl, hm, hmm, _, hx⟩
  · simp only [List.cons.injEq, and_true, Value.slice.injEq] at hcs
    obtain ⟨rfl, rfl, rfl⟩ := hcs
    exact ⟨[], rfl, Nat.le_refl _, rfl, by simp, fun h => by simp at h⟩
  · simp only [List.cons.injEq, and_true, Value.slice.injEq] at hcs
    obtain ⟨rfl, rfl, rfl⟩ := hcs
    have hlm : len ≤ m := by rw [hmm]; split <;> omega
    obtain ⟨f, hf⟩ := Deep.choose_lt (n := len) (p := fun i (p : α) => ∃ cs', w.cells? base (a.add (i * Try.prog.cellsOf e)) (Try.prog.cellsOf e) = some cs' ∧ d.K w p cs') (fun i hi => by
      obtain ⟨cs', h1, h2⟩ := hx i (by omega)
      obtain ⟨p, hp⟩ := hE _ _ _ h2
      exact ⟨p, cs', h1, hp⟩)
    refine ⟨(List.range len).map f, by simp, hl, rfl, by simp; unfold maxLen at hm; omega, fun _ => ⟨a, rfl, fun j p hj => ?_⟩⟩
    have hj' : j < len := by
      have := (List.getElem?_eq_some_iff.1 hj).1
      simpa using this
    obtain ⟨cs', h1, h2⟩ := hf j hj'
    have hp : p = f j := by
      rw [List.getElem?_map, List.getElem?_range hj'] at hj
      exact (Option.some.inj hj).symm
    subst hp
    obtain ⟨_, hlen, hcell⟩ := World.cells?_some h1
    refine ⟨cs', d.K_len h2, h2, fun i u hu => ?_⟩
    have hi : i < Try.prog.cellsOf e := by rw [← hlen]; exact (List.getElem?_eq_some_iff.1 hu).1
    rw [← Deep.add_add, ← hc, hcell i hi, hu]

instance : Inhabited S37 := ⟨z37⟩
theorem cells9 : Try.prog.cellsOf 9 = 1 := by kernel_rfl
theorem cells3 : Try.prog.cellsOf 3 = 1 := by kernel_rfl

end
end Go.Proofs.Ytnaddmkaakdhoaa.J

end
