/-
  Texts of this claim, joined, without what the claim does not use: XJr
-/
import Derived.Laws.BitsLemmas
import Derived.Test.YtnaddmkaakdhoaaSC9q
section
namespace Go.Proofs.Ytnaddmkaakdhoaa.J
open Go.RowKit Go.Proofs.YtnaddmkaakdhoaaW.PrintWords Go.Proofs.YtnaddmkaakdhoaaW.PrintLast Go.Proofs.YtnaddmkaakdhoaaW.PrintMore
set_option linter.unusedVariables false
set_option linter.unusedSimpArgs false

def g32 (s : ByteArray) : Int := bt s 0 * 16777216 + bt s 1 * 65536 + bt s 2 * 256 + bt s 3

theorem g32_range (s : ByteArray) : 0 ≤ g32 s ∧ g32 s < 4294967296 := by
  have h0 := bt_range s 0
  have h1 := bt_range s 1
  have h2 := bt_range s 2
  have h3 := bt_range s 3
  unfold g32
  omega

theorem wraps_u32 (n : Int) (h₀ : 0 ≤ n) (h₁ : n < 2 ^ 32) : IntKind.u32.wrap n = n := by rw [IntKind.wrap_u32]; omega

theorem or4 (a b c d : Int) (ha : 0 ≤ a ∧ a ≤ 255) (hb : 0 ≤ b ∧ b ≤ 255) (hc : 0 ≤ c ∧ c ≤ 255) (hd : 0 ≤ d ∧ d ≤ 255) :
    Go.bits .or .u32 (Go.bits .or .u32 (Go.bits .or .u32 (((a % 4294967296) * 16777216) % 4294967296) (((b % 4294967296) * 65536) % 4294967296)) (((c % 4294967296) * 256) % 4294967296)) (d % 4294967296) = a * 16777216 + b * 65536 + c * 256 + d := by
  have e1 : ((a % 4294967296) * 16777216) % 4294967296 = a * 16777216 := by omega
  have e2 : ((b % 4294967296) * 65536) % 4294967296 = b * 65536 := by omega
  have e3 : ((c % 4294967296) * 256) % 4294967296 = c * 256 := by omega
  have e4 : d % 4294967296 = d := by omega
  rw [e1, e2, e3, e4]
  rw [bits_join .u32 32 (by decide) wraps_u32 24 (a * 16777216) (b * 65536) (by omega) (by omega) (by omega) (by omega) (by omega) (by omega)]
  rw [bits_join .u32 32 (by decide) wraps_u32 16 (a * 16777216 + b * 65536) (c * 256) (by omega) (by omega) (by omega) (by omega) (by omega) (by omega)]
  rw [bits_join .u32 32 (by decide) wraps_u32 8 (a * 16777216 + b * 65536 + c * 256) d (by omega) (by omega) (by omega) (by omega) (by omega) (by omega)]

theorem get_f (s : ByteArray) (h : 4 ≤ s.size) : journal_get.f s = some (g32 s) := by
  unfold journal_get.f g32
  rw [if_pos (by omega), if_pos (by omega), if_pos (by omega), if_pos (by omega), or4 _ _ _ _ (bt_range s 0) (bt_range s 1) (bt_range s 2) (bt_range s 3)]

theorem bt_extract (s : ByteArray) (i j : Nat) (hj : j ≤ s.size) (k : Int) (h0 : 0 ≤ k) (h1 : i + k < j) : bt (s.extract i j) k = bt s (i + k) := by
  obtain ⟨n, rfl⟩ := Int.eq_ofNat_of_zero_le h0
  have hs : (s.extract i j).size = j - i := by rw [ByteArray.size_extract]; omega
  unfold bt
  rw [dif_pos (by rw [hs]; simp; omega), dif_pos (by omega)]
  have e : ((i : Int) + (n : Int)).toNat = i + n := by omega
  simp only [Int.toNat_natCast, e]
  rw [ByteArray.getElem_extract]

def nextS (s : ByteArray) : Int × ByteArray × Int :=
  if s.size < 9 then (0, ⟨#[]⟩, 0)
  else if g32 s > 1048576 ∨ (s.size : Int) < 9 + g32 s then (0, ⟨#[]⟩, 0)
  else if (bt s 8 = 1 ∨ bt s 8 = 2) ∧ Crc.sum (bytesOf (s.extract 8 (9 + g32 s).toNat)) = g32 (s.extract 4 s.size) then (bt s 8, s.extract 9 (9 + g32 s).toNat, 9 + g32 s)
  else (0, ⟨#[]⟩, 0)

theorem nextS_len (s : ByteArray) : (nextS s).2.2 = 0 ∨ (9 ≤ (nextS s).2.2 ∧ (nextS s).2.2 ≤ s.size) := by
  have := g32_range s
  unfold nextS
  split
  · exact .inl rfl
  · split
    · exact .inl rfl
    · split
      · right; dsimp only; omega
      · exact .inl rfl

theorem sum_f (s : ByteArray) (h : s.size ≤ 140737488355328) : journal_sum.f s = some (Crc.sum (bytesOf s)) := by unfold journal_sum.f; rw [if_pos h]

theorem w64 {x : Int} (h0 : 0 ≤ x) (h1 : x < 9223372036854775808) : wrap64 x = x := by unfold wrap64; omega

theorem next_f (s : ByteArray) (h : s.size ≤ 1099511627776) (k : Nat) : journal_next.f (k + 1) s = some (nextS s) := by
  have hr := g32_range s
  have h8 := bt_range s 8
  unfold journal_next.f nextS
  by_cases c1 : s.size < 9
  · rw [if_pos (by omega), if_pos c1]
  rw [if_neg (by omega), if_neg c1, get_f s (by omega), Option.bind_some, w64 (x := g32 s) (by omega) (by omega), w64 (x := 9 + g32 s) (by omega) (by omega)]
  by_cases c2 : g32 s > 1048576
  · rw [if_pos c2, if_pos (.inl c2)]
    simp only [journal_next.j0]
    rw [if_pos trivial]
  rw [if_neg c2]
  by_cases c3 : (s.size : Int) < 9 + g32 s
  · rw [if_pos (.inr c3), decide_eq_true c3]
    simp only [journal_next.j0]
    rw [if_pos trivial]
  rw [if_neg (by omega), decide_eq_false c3]
  simp only [journal_next.j0]
  rw [if_neg (by simp), if_pos (by omega), w64 (x := 9 + g32 s) (by omega) (by omega), if_pos (by omega), if_pos (by omega), w64 (x := bt s 8) (by omega) (by omega), if_pos (show (8 : Int) ≤ 9 + g32 s by omega)]
  have c4' : (4 : Int) ≤ s.size := by omega
  rw [sum_f _ (by rw [ByteArray.size_extract]; omega), get_f (s.extract 4 s.size) (by rw [ByteArray.size_extract]; omega)]
  simp only [Option.bind_some, if_pos c4']
  by_cases k1 : bt s 8 = 1
  · rw [if_pos k1]
    by_cases c4 : Crc.sum (bytesOf (s.extract 8 (9 + g32 s).toNat)) = g32 (s.extract 4 s.size)
    · rw [if_pos c4, if_pos ⟨.inl k1, c4⟩]
    · rw [if_neg c4, if_neg (fun x => c4 x.2)]
  · rw [if_neg k1]
    by_cases k2 : bt s 8 = 2
    · rw [if_pos k2]
      by_cases c4 : Crc.sum (bytesOf (s.extract 8 (9 + g32 s).toNat)) = g32 (s.extract 4 s.size)
      · rw [if_pos c4, if_pos ⟨.inr k2, c4⟩]
      · rw [if_neg c4, if_neg (fun x => c4 x.2)]
    · rw [if_neg k2, if_neg (fun x => x.1.elim k1 k2)]

end Go.Proofs.Ytnaddmkaakdhoaa.J

end
