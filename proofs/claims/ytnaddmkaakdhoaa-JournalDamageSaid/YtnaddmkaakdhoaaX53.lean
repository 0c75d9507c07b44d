/-
  journal.sum of the program comes to the sum of chapter 3 of a text's bytes. No condition.
-/
import Derived.Test.YtnaddmkaakdhoaaX80
namespace Go.Proofs.Ytnaddmkaakdhoaa.J
open Go.RowKit Go.Proofs.YtnaddmkaakdhoaaW.PrintWords Go.Proofs.YtnaddmkaakdhoaaW.PrintLast Go.Proofs.YtnaddmkaakdhoaaW.PrintMore
set_option linter.unusedVariables false
set_option linter.unusedSimpArgs false

def journal_sum.f (a0 : ByteArray) : Option Int := if a0.size ≤ 140737488355328 then some (Crc.sum (bytesOf a0)) else none

set_option maxHeartbeats 8000000 in
set_option maxRecDepth 100000 in
theorem journal_sum.calls (a0 : ByteArray) (r : Int) (w : World) (h : journal_sum.f a0 = some r) :
    Calls Try.prog 53 #[.string a0] w fun e w' => e = .returned (.int .u32 r) ∧ Below w.heap.size w w' := by
  unfold journal_sum.f at h
  obtain ⟨hlen, h⟩ : a0.size ≤ 140737488355328 ∧ some (Crc.sum (bytesOf a0)) = some r := by
    split at h
    · exact ⟨‹_›, h⟩
    · cases h
  have HH := Aside0.mk h
  clear h
  have hc := print_bytes (P := Try.prog) 9 39 5 Try.underlying9 Try.underlying39 Try.underlying5 a0 w
  go_enter Try.func53, Try.ntmps53
  go_wp2_with fail
  refine (checksum_Sum.calls_n _ _ _ (bytesOf a0) (bytesOf_length a0) _ (Kd.C_of_reads (d := (0 : Int)) (h1 := fun _ => rfl) (bytes_reads w 5 a0 (by omega))) ?_).mono ?_
  · exact grownCap_ge _ _ _ _
  rintro e w1 ⟨rfl, hb⟩
  have hb' := hb
  have hB := bytes_below (Below.refl w.heap.size w) (Nat.le_refl _) 5 a0
  obtain rfl := Option.some.inj HH.out
  go_wp2
  go_ret
  exact ⟨rfl, below_then hB hB.size hb'⟩
end Go.Proofs.Ytnaddmkaakdhoaa.J
