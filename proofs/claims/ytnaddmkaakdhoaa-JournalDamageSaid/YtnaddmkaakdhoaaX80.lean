/-
  checksum.Sum of the program comes to the sum of chapter 3, for every slice of bytes that can be read. No condition.
-/
import Derived.Test.YtnaddmkaakdhoaaJB
import Derived.Test.YtnaddmkaakdhoaaXCrc
namespace Go.Proofs.Ytnaddmkaakdhoaa.J
open Go.RowKit Go.Proofs.YtnaddmkaakdhoaaW.PrintWords Go.Proofs.YtnaddmkaakdhoaaW.PrintLast Go.Proofs.YtnaddmkaakdhoaaW.PrintMore
set_option linter.unusedVariables false
set_option linter.unusedSimpArgs false
open Crc (W32 stN st1 upd crc)

theorem and1 (v : W32) : Go.bits .and .u32 (v.toNat : Int) 1 = 1 ↔ v.getLsbD 0 = true := by
  rw [Crc.and_u32, Crc.ofInt_toNat]
  have e : (v &&& BitVec.ofInt 32 1).toNat = v.toNat % 2 := by
    rw [BitVec.toNat_and, show (BitVec.ofInt 32 1).toNat = 2 ^ 1 - 1 from rfl, Nat.and_two_pow_sub_one_eq_mod]
  rw [e, BitVec.getLsbD, Nat.testBit_zero]
  simp
  omega

theorem step_one (v : W32) : (if Go.bits .and .u32 (v.toNat : Int) 1 = 1 then Go.bits .xor .u32 ((v.toNat : Int) / 2) 2197175160 else (v.toNat : Int) / 2) = ((st1 v).toNat : Int) := by
  have e : (v.toNat : Int) / (2 : Int) = ((v >>> 1).toNat : Int) := by
    rw [BitVec.toNat_ushiftRight, Nat.shiftRight_eq_div_pow]
    simp
  unfold st1
  by_cases h : v.getLsbD 0 = true
  · rw [if_pos ((and1 v).2 h), if_pos h, Crc.xor_u32, e, Crc.ofInt_toNat]; rfl
  · rw [if_neg (fun x => h ((and1 v).1 x)), if_neg h, e]

theorem step_l0 (n : Nat) (hn : n ≤ 32) : ∀ (d : Nat) (v : W32) (i k : Nat), i ≤ n → n - i = d → d < k → checksum_step.l0 k (v.toNat : Int) (n : Int) (i : Int) = some ((stN d v).toNat : Int)
  | 0, v, i, k, hi, hd, hk => by
    obtain ⟨k, rfl⟩ : ∃ m, k = m + 1 := ⟨k - 1, by omega⟩
    simp only [checksum_step.l0]
    rw [if_neg (by omega)]
    rfl
  | d + 1, v, i, k, hi, hd, hk => by
    obtain ⟨k, rfl⟩ : ∃ m, k = m + 1 := ⟨k - 1, by omega⟩
    have ih := step_l0 n hn d (st1 v) (i + 1) k (by omega) (by omega) (by omega)
    simp only [checksum_step.l0]
    rw [if_pos (by omega), show wrap64 ((i : Int) + 1) = ((i + 1 : Nat) : Int) by unfold wrap64; omega]
    have s := step_one v
    by_cases h : Go.bits .and .u32 (v.toNat : Int) 1 = 1
    · rw [if_pos h] at s ⊢
      rw [s]; exact ih
    · rw [if_neg h] at s ⊢
      rw [s]; exact ih

theorem step4_calls (x : Int) (h0 : 0 ≤ x) (h1 : x < 4294967296) (w : World) : Calls Try.prog 102 #[.int .u32 x, .int .i64 4] w fun e w' => e = .returned (.int .u32 ((stN 4 (BitVec.ofInt 32 x)).toNat : Int)) ∧ Drawn0 w w' := by
  have e : ((BitVec.ofInt 32 x).toNat : Int) = x := by rw [BitVec.toNat_ofInt]; omega
  exact checksum_step.calls 5 x 4 _ w (by unfold checksum_step.f; have := step_l0 4 (by omega) 4 (BitVec.ofInt 32 x) 0 5 (by omega) (by omega) (by omega); rw [e] at this; exact this)

/-- The table, its first k places filled. -/
def tab (k : Nat) : Array Value := Array.ofFn fun j : Fin 16 => .int .u32 (if j.val < k then ((stN 4 (BitVec.ofInt 32 (j.val : Int))).toNat : Int) else 0)
theorem tab_at (k j : Nat) (hj : j < 16) : (tab k)[j]? = some (.int .u32 (if j < k then ((stN 4 (BitVec.ofInt 32 (j : Int))).toNat : Int) else 0)) := by
  unfold tab
  rw [Array.getElem?_ofFn]
  simp [hj]
theorem tab_size (k : Nat) : (tab k).size = 16 := by simp [tab]
theorem tab_set (k : Nat) (hk : k < 16) : (tab k).setIfInBounds k (.int .u32 ((stN 4 (BitVec.ofInt 32 (k : Int))).toNat : Int)) = tab (k + 1) := by
  apply Array.ext
  · simp [tab]
  · intro i h1 h2
    rw [Array.size_setIfInBounds, tab_size] at h1
    apply Option.some.inj
    rw [← Array.getElem?_eq_getElem, ← Array.getElem?_eq_getElem, Array.getElem?_setIfInBounds, tab_at (k + 1) i h1, tab_size]
    by_cases h : k = i
    · subst h; simp [hk]
    · rw [if_neg h, tab_at k i h1]
      by_cases h' : i < k
      · simp [h', Nat.lt_succ_of_lt h']
      · simp [h', show ¬ i < k + 1 by omega]
theorem tab_zero : tab 0 = Array.replicate 16 (.int .u32 0) := by
  apply Array.ext
  · simp [tab]
  · intro i h1 h2
    simp [tab]

theorem idx_ok (y : Int) : 0 ≤ Go.bits .and .u32 y 15 ∧ Go.bits .and .u32 y 15 < 16 := by
  rw [Crc.and_u32]
  have e : (BitVec.ofInt 32 y &&& BitVec.ofInt 32 15).toNat = (BitVec.ofInt 32 y).toNat % 16 := by
    rw [BitVec.toNat_and, show (BitVec.ofInt 32 15).toNat = 2 ^ 4 - 1 from rfl, Nat.and_two_pow_sub_one_eq_mod]
  rw [e]
  omega
theorem tab_read {W : World} {B : Nat} (h : W.heap[B]? = some (.cells (tab 16) 133 (0, 0))) (y : Int) : W.cell? ⟨B, (Go.bits .and .u32 y 15).toNat, none⟩ = some (.int .u32 ((stN 4 (BitVec.ofInt 32 y &&& 15#32)).toNat : Int)) := by
  obtain ⟨a, b⟩ := idx_ok y
  have c : (Go.bits .and .u32 y 15).toNat < 16 := by omega
  rw [blk_cell h, tab_at 16 _ c, if_pos c]
  have e : BitVec.ofInt 32 (((Go.bits .and .u32 y 15).toNat : Nat) : Int) = BitVec.ofInt 32 y &&& 15#32 := by
    rw [Int.toNat_of_nonneg a, Crc.and_u32, Crc.ofInt_toNat]; rfl
  rw [e]

theorem take_one (l : List Int) (n : Nat) (h : n < l.length) : l.take (n + 1) = l.take n ++ [rd l n] := by
  rw [List.take_succ_eq_append_getElem h]
  simp [rd, h]
theorem round_eq (V : W32) (c : Int) : Go.bits .xor .u32 (Go.bits .xor .u32 (Go.bits .xor .u32 (V.toNat : Int) (c % 4294967296) / 16) ((stN 4 (BitVec.ofInt 32 (Go.bits .xor .u32 (V.toNat : Int) (c % 4294967296)) &&& 15#32)).toNat : Int) / 16) ((stN 4 (BitVec.ofInt 32 (Go.bits .xor .u32 (Go.bits .xor .u32 (V.toNat : Int) (c % 4294967296) / 16) ((stN 4 (BitVec.ofInt 32 (Go.bits .xor .u32 (V.toNat : Int) (c % 4294967296)) &&& 15#32)).toNat : Int)) &&& 15#32)).toNat : Int) = ((upd V (BitVec.ofInt 32 c)).toNat : Int) := by
  have d : ∀ U : W32, (BitVec.ofInt 32 ((U.toNat : Int) / 16)) = U >>> 4 := fun U => Crc.ofInt_div U 4
  simp only [Crc.xor_u32, Crc.ofInt_toNat, Crc.ofInt_mod, d]
  rw [← Crc.upd_nib]

def checksum_Sum.f (l0 : List Int) : Option Int := some (Crc.sum l0)

set_option maxHeartbeats 8000000 in
set_option maxRecDepth 100000 in
theorem checksum_Sum.calls (A0 : Option Addr) (c0 : Nat) (l0 : List Int) (r : Int) (w : World) (hr0 : Kd.C (Kd.int .u8) w A0 l0.length l0) (hc0 : l0.length ≤ c0) (h : checksum_Sum.f l0 = some r) :
    Calls Try.prog 80 #[.slice A0 l0.length c0] w fun e w' => e = .returned (.int .u32 r) ∧ Below w.heap.size w w' := by
  have HR := Aside0.mk hr0
  unfold checksum_Sum.f at h
  have hlen : l0.length ≤ 9223372036854775807 := HR.out.2.1
  have HH := Aside0.mk h
  clear hr0 h
  go_enter Try.func80, Try.ntmps80
  go_wp2
  have hT : ((w.alloc (.cells #[.int .u32 0, .int .u32 0, .int .u32 0, .int .u32 0, .int .u32 0, .int .u32 0, .int .u32 0, .int .u32 0, .int .u32 0, .int .u32 0, .int .u32 0, .int .u32 0, .int .u32 0, .int .u32 0, .int .u32 0, .int .u32 0] 133)).heap[w.heap.size]? = some (.cells (tab 0) 133 (0, 0))) := by
    rw [tab_zero]; exact blk_new w _
  have hB0 := (Below.refl _ w).alloc (Nat.le_refl _) (.cells #[.int .u32 0, .int .u32 0, .int .u32 0, .int .u32 0, .int .u32 0, .int .u32 0, .int .u32 0, .int .u32 0, .int .u32 0, .int .u32 0, .int .u32 0, .int .u32 0, .int .u32 0, .int .u32 0, .int .u32 0, .int .u32 0] 133)
  have HT := Aside0.mk hT
  have HB := Aside0.mk hB0
  clear hT hB0
  go_loopw [8] (fun i wr => ∃ k : Nat, k ≤ 16 ∧ i = .int .i64 k ∧ Aside0 (wr.heap[w.heap.size]? = some (.cells (tab k) 133 (0, 0))) ∧ Aside0 (Below w.heap.size w wr)) (fun i _ => 16 - (intOf i).toNat)
  case atStart => exact ⟨0, by omega, rfl, HT, HB⟩
  case round =>
    clear HT HB
    obtain ⟨k, hk, rfl, ht, hb⟩ := hrel
    by_cases hlt : k < 16
    · have hcell := (blk_cell ht.out k).trans (tab_at k k hlt)
      have hfr := blk_frozen ht.out k
      go_wp2_with fail
      refine (step4_calls _ (by omega) (by omega) _).mono ?_
      rintro e w' ⟨rfl, ⟨m1, rfl⟩⟩
      go_wp2
      go_roundw
      case rel => exact ⟨k + 1, by omega, by go_num, ⟨by rw [← tab_set k hlt]; exact blk_set (blk_drewN ht.out m1) k _⟩, ⟨(pw_below_drewN hb.out m1).setCell (Nat.le_refl _) _⟩⟩
      case measure => simp [intOf]; omega
    · obtain rfl : k = 16 := by omega
      go_wp2
      have HT := ht
      have HB := hb
      clear ht hb
      go_loopw [5, 19] (fun v i wq => ∃ (x : Int) (V : W32), 0 ≤ x ∧ x ≤ l0.length ∧ i = .int .i64 x ∧ v = .int .u32 (V.toNat : Int) ∧ Aside0 (V = crc (BitVec.allOnes 32) (l0.take x.toNat)) ∧ Aside0 (wq.heap[w.heap.size]? = some (.cells (tab 16) 133 (0, 0))) ∧ Aside0 (Below w.heap.size w wq)) (fun _ i _ => l0.length - (intOf i).toNat)
      case atStart => exact ⟨0, BitVec.allOnes 32, by omega, by omega, rfl, rfl, ⟨rfl⟩, HT, HB⟩
      case round =>
        clear HT HB
        obtain ⟨x, V, h0, hk, rfl, rfl, hV, ht, hb⟩ := hrel
        by_cases hlt : x < l0.length
        · obtain ⟨ad, ea, hx⟩ := Kd.at_int (HR.out) x h0 hlt
          cases ea
          have hx' := (hb.out.cell (World.block_lt_of_cell? w _ hx)).trans hx
          clear hx
          obtain ⟨f1a, f1b⟩ := idx_ok (Go.bits .xor .u32 (V.toNat : Int) (rd l0 x % 4294967296))
          have g1 := tab_read ht.out (Go.bits .xor .u32 (V.toNat : Int) (rd l0 x % 4294967296))
          obtain ⟨f2a, f2b⟩ := idx_ok (Go.bits .xor .u32 (Go.bits .xor .u32 (V.toNat : Int) (rd l0 x % 4294967296) / 16) ((stN 4 (BitVec.ofInt 32 (Go.bits .xor .u32 (V.toNat : Int) (rd l0 x % 4294967296)) &&& 15#32)).toNat : Int))
          have g2 := tab_read ht.out (Go.bits .xor .u32 (Go.bits .xor .u32 (V.toNat : Int) (rd l0 x % 4294967296) / 16) ((stN 4 (BitVec.ofInt 32 (Go.bits .xor .u32 (V.toNat : Int) (rd l0 x % 4294967296)) &&& 15#32)).toNat : Int))
          go_wp2
          clear g1 g2 f1a f1b f2a f2b
          go_roundw
          case rel =>
            refine ⟨x + 1, upd V (BitVec.ofInt 32 (rd l0 x)), by omega, by omega, rfl, ?_, ⟨?_⟩, ht, hb⟩
            · rw [round_eq]
            · rw [hV.out, show (x + 1).toNat = x.toNat + 1 by omega, take_one l0 x.toNat (by omega), Crc.crc_append]; rfl
          case measure => simp [intOf]; omega
        · have H := HH.out
          clear HH
          obtain rfl : x = l0.length := by omega
          have E : r = Go.bits .xor .u32 4294967295 (V.toNat : Int) := by
            have := Option.some.inj H
            rw [← this, Crc.xor_u32, Crc.ofInt_toNat, hV.out]
            unfold Crc.sum
            rw [show BitVec.ofInt 32 4294967295 = BitVec.allOnes 32 from rfl, BitVec.allOnes_xor, show ((l0.length : Int)).toNat = l0.length from rfl, List.take_length]
          subst E
          clear H
          go_wp2
          go_ret
          exact ⟨rfl, hb.out⟩
theorem checksum_Sum.calls_n (A0 : Option Addr) (n c0 : Nat) (l0 : List Int) (hn : l0.length = n) (w : World) (hr0 : Kd.C (Kd.int .u8) w A0 n l0) (hc0 : n ≤ c0) :
    Calls Try.prog 80 #[.slice A0 n c0] w fun e w' => e = .returned (.int .u32 (Crc.sum l0)) ∧ Below w.heap.size w w' := by
  subst hn
  exact checksum_Sum.calls A0 c0 l0 _ w hr0 hc0 rfl
end Go.Proofs.Ytnaddmkaakdhoaa.J
