/-
  Texts of this claim, joined, without what the claim does not use: XRw
-/
import Derived.ChangeArms
import Derived.Test.YtnaddmkaakdhoaaSFJc
section
namespace Go.Proofs.Ytnaddmkaakdhoaa.J
open Go.RowKit Go.ChangeShapes Go.WideShapes Go.ChangeAt Go.Proofs.YtnaddmkaakdhoaaW.PrintWords Go.Proofs.YtnaddmkaakdhoaaW.PrintLast Go.Proofs.YtnaddmkaakdhoaaW.PrintMore
set_option linter.unusedVariables false
set_option linter.unusedSimpArgs false
section
variable {H : Type} {enc : TypeId × Value → H} {w : World} {base : Nat} {spare : Nat → Bool} {held : Bool}
instance : Inhabited S67 := ⟨z67⟩
instance : Inhabited S69 := ⟨z69⟩
instance : Inhabited S49 := ⟨z49⟩
theorem cells67 : Try.prog.cellsOf 67 = 2 := by kernel_rfl
theorem cells69 : Try.prog.cellsOf 69 = 2 := by kernel_rfl
theorem cells49 : Try.prog.cellsOf 49 = 4 := by kernel_rfl
theorem cells47 : Try.prog.cellsOf 47 = 4 := by kernel_rfl
theorem cells43 : Try.prog.cellsOf 43 = 1 := by kernel_rfl
theorem cells44 : Try.prog.cellsOf 44 = 1 := by kernel_rfl
theorem cells45 : Try.prog.cellsOf 45 = 1 := by kernel_rfl
set_option maxRecDepth 100000 in
theorem elem67 (n : Nat) (cs : List Value) (x : DataW H × List MemPlace) (h : DataW.trod enc Try.prog w base spare held n 67 cs = some x) : ∃ p, k67.K w p cs := by
  obtain ⟨y0, y1, m, _, hl, h0, h1⟩ := trod_struct2 Try.underlying67 h
  rw [cells67] at hl
  match cs, hl with
  | [c0, c1], _ =>
    simp only [cells3, cells9, List.drop_zero, List.take_succ_cons, List.take_zero, List.drop_succ_cons] at h0 h1
    obtain ⟨a, e0, _, _⟩ := DataW.trod_string Try.underlying9 h0
    obtain ⟨b, e1, _, _⟩ := DataW.trod_int Try.underlying3 h1
    simp only [List.cons.injEq, and_true] at e0 e1
    subst e0 e1
    exact ⟨⟨a, b⟩, k67_mk w ⟨a, b⟩⟩
set_option maxRecDepth 100000 in
theorem elem69 (n : Nat) (cs : List Value) (x : DataW H × List MemPlace) (h : DataW.trod enc Try.prog w base spare held n 69 cs = some x) : ∃ p, k69.K w p cs := by
  obtain ⟨y0, y1, m, _, hl, h0, h1⟩ := trod_struct2 Try.underlying69 h
  rw [cells69] at hl
  match cs, hl with
  | [c0, c1], _ =>
    simp only [cells3, cells9, List.drop_zero, List.take_succ_cons, List.take_zero, List.drop_succ_cons] at h0 h1
    obtain ⟨a, e0, _, _⟩ := DataW.trod_string Try.underlying9 h0
    obtain ⟨b, e1, _, _⟩ := DataW.trod_int Try.underlying3 h1
    simp only [List.cons.injEq, and_true] at e0 e1
    subst e0 e1
    exact ⟨⟨a, b⟩, k69_mk w ⟨a, b⟩⟩
theorem four_list {α : Type} {l : List α} (h : l.length = 4) : ∃ a b c d, l = [a, b, c, d] := by
  match l, h with
  | [a, b, c, d], _ => exact ⟨a, b, c, d, rfl⟩
set_option maxRecDepth 100000 in
theorem elem49 (n : Nat) (cs : List Value) (x : DataW H × List MemPlace) (h : DataW.trod enc Try.prog w base spare held n 49 cs = some x) : ∃ p : S49, cs = [.int .i64 p.f0, .string p.f1, .string p.f2, .string p.f3] := by
  obtain ⟨xs, m, _, _, hl, hx, hf⟩ := DataW.trod_struct Try.underlying49 h
  rw [cells49] at hl
  match cs, hl with
  | [c0, c1, c2, c3], _ =>
    have g0 := hf 0 { name := "Kind", type := 3, offset := 0, embedded := false, tag := "", pkgPath := "", byteOffset := 0 } rfl
    have g1 := hf 1 { name := "Name", type := 9, offset := 1, embedded := false, tag := "", pkgPath := "", byteOffset := 8 } rfl
    have g2 := hf 2 { name := "To", type := 9, offset := 2, embedded := false, tag := "", pkgPath := "", byteOffset := 24 } rfl
    have g3 := hf 3 { name := "Data", type := 9, offset := 3, embedded := false, tag := "", pkgPath := "", byteOffset := 40 } rfl
    have hx4 : xs.length = 4 := hx
    rw [List.getElem?_eq_getElem (by omega)] at g0 g1 g2 g3
    simp only [cells3, cells9, List.drop_zero, List.take_succ_cons, List.take_zero, List.drop_succ_cons] at g0 g1 g2 g3
    obtain ⟨a, e0, _, _⟩ := DataW.trod_int Try.underlying3 g0
    obtain ⟨b, e1, _, _⟩ := DataW.trod_string Try.underlying9 g1
    obtain ⟨c, e2, _, _⟩ := DataW.trod_string Try.underlying9 g2
    obtain ⟨d, e3, _, _⟩ := DataW.trod_string Try.underlying9 g3
    simp only [List.cons.injEq, and_true] at e0 e1 e2 e3
    subst e0 e1 e2 e3
    exact ⟨⟨a, b, c, d⟩, rfl⟩
set_option maxRecDepth 100000 in
theorem o49_of_trod {n : Nat} {cs : List Value} {x : DataW H × List MemPlace} (h : DataW.trod enc Try.prog w base spare held n 49 cs = some x) : ∃ p : S49, cs = [.int .i64 p.f0, .string p.f1, .string p.f2, .string p.f3] ∧ ∃ y0 y1 y2, x.1 = .agg [y0, y1, y2, .lit (.string p.f3.data.toList)] := by
  obtain ⟨xs, m, _, hxe, hl, hx, hf⟩ := DataW.trod_struct Try.underlying49 h
  rw [cells49] at hl
  match cs, hl with
  | [c0, c1, c2, c3], _ =>
    have g0 := hf 0 { name := "Kind", type := 3, offset := 0, embedded := false, tag := "", pkgPath := "", byteOffset := 0 } rfl
    have g1 := hf 1 { name := "Name", type := 9, offset := 1, embedded := false, tag := "", pkgPath := "", byteOffset := 8 } rfl
    have g2 := hf 2 { name := "To", type := 9, offset := 2, embedded := false, tag := "", pkgPath := "", byteOffset := 24 } rfl
    have g3 := hf 3 { name := "Data", type := 9, offset := 3, embedded := false, tag := "", pkgPath := "", byteOffset := 40 } rfl
    have hx4 : xs.length = 4 := hx
    rw [List.getElem?_eq_getElem (by omega)] at g0 g1 g2 g3
    simp only [cells3, cells9, List.drop_zero, List.take_succ_cons, List.take_zero, List.drop_succ_cons] at g0 g1 g2 g3
    obtain ⟨a, e0, _, _⟩ := DataW.trod_int Try.underlying3 g0
    obtain ⟨b, e1, _, _⟩ := DataW.trod_string Try.underlying9 g1
    obtain ⟨c, e2, _, _⟩ := DataW.trod_string Try.underlying9 g2
    obtain ⟨d, e3, hd3, _⟩ := DataW.trod_string Try.underlying9 g3
    simp only [List.cons.injEq, and_true] at e0 e1 e2 e3
    subst e0 e1 e2 e3
    refine ⟨⟨a, b, c, d⟩, rfl, ?_⟩
    have hg3 : xs[3]? = some (.lit (.string d.data.toList), []) := by rw [List.getElem?_eq_getElem (by omega), hd3]
    obtain ⟨x0, x1, x2, x3, hxs⟩ := four_list hx4
    have hx3 : x3 = (.lit (.string d.data.toList), []) := by rw [hxs] at hg3; exact Option.some.inj hg3
    exact ⟨x0.1, x1.1, x2.1, by rw [hxe, hxs, hx3]; rfl⟩
theorem sized49 {ts : List TypeId} {ds : List (DataW H)} (h : (DataW.weightsEach Try.prog ts ds).all (· ≤ reachBytes) = true) {j : Nat} {y0 y1 y2 : DataW H} {bytes : List UInt8} (ht : ts[j]? = some 49) (hd : ds[j]? = some (.agg [y0, y1, y2, .lit (.string bytes)])) : bytes.length ≤ reachBytes := by
  have h2 := List.all_eq_true.1 h _ (DataW.weights_mem_each ht hd bytes.length (by
    simp [DataW.weights, Try.underlying49, DataW.weightsEach]))
  simpa using h2
theorem C_of_trod' {α : Type} [Inhabited α] (d : Kd α) {t e : TypeId} (ht : Try.prog.underlying t = some (.slice e)) (hc : Try.prog.cellsOf e = d.sz)
    (hE : ∀ (n : Nat) (cs : List Value) (x : DataW H × List MemPlace), DataW.trod enc Try.prog w base spare held n e cs = some x → ∃ p, d.K w p cs)
    {fuel : Nat} {c : Value} {x : DataW H × List MemPlace} (h : DataW.trod enc Try.prog w base spare held fuel t [c] = some x) :
    ∃ (A : Option Addr) (cap : Nat) (xs : List α), c = .slice A xs.length cap ∧ xs.length ≤ cap ∧ Kd.C d w A xs.length xs := by
  have hs : ∃ A len cap, c = .slice A len cap := by
    rcases DataW.trod_slice ht h with ⟨e, _⟩ | ⟨a, len, cap, _, _, _, _, e, _⟩
    · exact ⟨none, 0, 0, by simpa using e⟩
    · exact ⟨some a, len, cap, by simpa using e⟩
  obtain ⟨A, len, cap, rfl⟩ := hs
  obtain ⟨xs, e1, e2, e3⟩ := C_of_trod d ht hc hE h
  subst e1
  exact ⟨A, cap, xs, rfl, e2, e3⟩
set_option maxRecDepth 100000 in
theorem DC_of_trod {fuel : Nat} {cs : List Value} {x : DataW H × List MemPlace} (h : DataW.trod enc Try.prog w base spare held fuel 47 cs = some x) : ∃ d : Dsk, DC w (.agg cs.toArray) d := by
  obtain ⟨xs, m, _, _, hl, hx, hf⟩ := DataW.trod_struct Try.underlying47 h
  rw [cells47] at hl
  match cs, hl with
  | [c0, c1, c2, c3], _ =>
    have g0 := hf 0 { name := "Inodes", type := 43, offset := 0, embedded := false, tag := "", pkgPath := "", byteOffset := 0 } rfl
    have g1 := hf 1 { name := "Dir", type := 44, offset := 1, embedded := false, tag := "", pkgPath := "", byteOffset := 24 } rfl
    have g2 := hf 2 { name := "Durable", type := 44, offset := 2, embedded := false, tag := "", pkgPath := "", byteOffset := 48 } rfl
    have g3 := hf 3 { name := "Ops", type := 45, offset := 3, embedded := false, tag := "", pkgPath := "", byteOffset := 72 } rfl
    have hx4 : xs.length = 4 := hx
    rw [List.getElem?_eq_getElem (by omega)] at g0 g1 g2 g3
    simp only [cells43, cells44, cells45, List.drop_zero, List.take_succ_cons, List.take_zero, List.drop_succ_cons] at g0 g1 g2 g3
    obtain ⟨A0, q0, l0, rfl, a0, b0⟩ := C_of_trod' k67 Try.underlying43 cells67 elem67 g0
    obtain ⟨A1, q1, l1, rfl, a1, b1⟩ := C_of_trod' k69 Try.underlying44 cells69 elem69 g1
    obtain ⟨A2, q2, l2, rfl, a2, b2⟩ := C_of_trod' k69 Try.underlying44 cells69 elem69 g2
    obtain ⟨A3, q3, l3, rfl, a3, b3⟩ := C_of_trod' k49 Try.underlying45 cells49 (fun n cs x h => by
      obtain ⟨p, rfl⟩ := elem49 n cs x h
      exact ⟨p, k49_mk w p⟩) g3
    exact ⟨⟨l0, l1, l2, l3⟩, A0, q0, A1, q1, A2, q2, A3, q3, rfl, ⟨b0, a0⟩, ⟨b1, a1⟩, ⟨b2, a2⟩, ⟨b3, a3⟩⟩
end
end Go.Proofs.Ytnaddmkaakdhoaa.J

end
