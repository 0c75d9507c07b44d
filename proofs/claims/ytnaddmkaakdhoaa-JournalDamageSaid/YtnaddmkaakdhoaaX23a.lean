/-
  journal.Scan of the program: the records at the beginning of a text of at most 2^40 bytes, where they end, and what follows.
-/
import Derived.Test.YtnaddmkaakdhoaaXJr
import Derived.RangeFuncNested
import Derived.RangeFuncBound
import Derived.RangeFuncCalls
import Derived.RangeFuncLeaves
import Derived.Shelf.Abstract
import Derived.Shelf.RegionOpen
import Derived.WalkKit
import Derived.OwnWalkIn
import Derived.TacticsInMore
import Derived.LoopNIn
import Derived.LoopIn
namespace Go.Proofs.Ytnaddmkaakdhoaa.J
open Go.RowKit Go.Shelf Go.Proofs.YtnaddmkaakdhoaaW.PrintWords Go.Proofs.YtnaddmkaakdhoaaW.PrintLast Go.Proofs.YtnaddmkaakdhoaaW.PrintMore
attribute [local go_sem] Oper.semAt_some
set_option linter.unusedVariables false
set_option linter.unusedSimpArgs false

/-- The records from a place on, with the places where they end; and the last place. -/
def scanL : Nat → ByteArray → Int → List (Int × S37)
  | 0, _, _ => []
  | f + 1, s, at_ =>
    let r := nextS (s.extract at_.toNat s.size)
    if r.2.2 = 0 then [] else (at_ + r.2.2, ⟨r.1, r.2.1⟩) :: scanL f s (at_ + r.2.2)

abbrev encs (p : Int × S37) : Array Value := #[.int .i64 p.1, .agg #[.int .i64 p.2.f0, .string p.2.f1]]

theorem scanL_step (s : ByteArray) (f : Nat) (x : Int) : (nextS (s.extract x.toNat s.size)).2.2 = 0 ∧ scanL f s x = [] ∨ (nextS (s.extract x.toNat s.size)).2.2 ≠ 0 ∧ ∀ g, f = g + 1 → scanL f s x = (x + (nextS (s.extract x.toNat s.size)).2.2, ⟨(nextS (s.extract x.toNat s.size)).1, (nextS (s.extract x.toNat s.size)).2.1⟩) :: scanL g s (x + (nextS (s.extract x.toNat s.size)).2.2) := by
  by_cases h : (nextS (s.extract x.toNat s.size)).2.2 = 0
  · left
    refine ⟨h, ?_⟩
    cases f with
    | zero => rfl
    | succ f => simp only [scanL]; rw [if_pos h]
  · right
    refine ⟨h, ?_⟩
    rintro g rfl
    simp only [scanL]
    rw [if_neg h]

set_option maxRecDepth 100000 in
set_option maxHeartbeats 2000000 in
theorem records1_in (F : Fence) (n : Nat) (h78 : F.fn 78) (h79 : F.fn 79) (hro : F.round = none) (hn : 2 ≤ n)
    (hnext : ∀ (s : ByteArray) (w : World), s.size ≤ 1099511627776 → CallsIn F (n - 1) Try.prog 79 #[.string s] w fun e w' => e = .returned (.tuple #[.agg #[.int .i64 (nextS s).1, .string (nextS s).2.1], .int .i64 (nextS s).2.2]) ∧ Below w.heap.size w w')
    (l Bn : Nat) (data : ByteArray) (hsz : data.size ≤ 1099511627776) (J Jx : List (Int × S37) → World → Prop)
    (W : World) (hJ : AbidesFrom W.heap.size J) (hJx : AbidesFrom W.heap.size Jx)
    (hY : ∀ pre x W, J pre W → pre.length < data.size → YieldAt F (n - 1) Try.prog l (encs x) W fun e W' =>
      (e = .returned (.bool true) ∧ J (pre ++ [x]) W' ∧ W'.heap[Bn]? = W.heap[Bn]?) ∨ (e = .returned (.bool false) ∧ Jx (pre ++ [x]) W'))
    (hBn : W.heap[Bn]? = some (.cells #[.string data] 9 (0, 0))) (h0 : J [] W) :
    CallsIn F n Try.prog 78 #[.func (.yield l) #[] #[], .pointer (some ⟨Bn, 0, none⟩)] W fun e W' => (∃ v, e = .returned v) ∧
      ((∃ ys, ys = scanL data.size data 0 ∧ J ys W') ∨ (∃ pre, pre <+: scanL data.size data 0 ∧ Jx pre W')) := by
  have HH := Aside0.mk hJ
  have HHx := Aside0.mk hJx
  have HB := Aside0.mk hBn
  clear hJ hJx hBn
  refine callsIn_of_wp Try.func78 rfl h78 ?_ hro
  simp only [Try.ntmps78, List.size_toArray, List.length_cons, List.length_nil, Nat.reduceAdd, Nat.reduceSub, Array.replicate_succ, Array.replicate_zero, List.push_toArray, List.append_toArray, List.nil_append, List.cons_append]
  gi_wp2
  gi_loopw [3] (fun a wr => ∃ (pre : List (Int × S37)) (x : Int), a = .int .i64 x ∧ 0 ≤ x ∧ x ≤ data.size ∧ 9 * pre.length ≤ x ∧ Aside0 (scanL data.size data 0 = pre ++ scanL (data.size - pre.length) data x) ∧ Aside0 (wr.heap[Bn]? = some (.cells #[.string data] 9 (0, 0))) ∧ J pre wr)
    (fun a _ => data.size - (intOf a).toNat)
  case atStart => exact ⟨[], 0, rfl, by omega, by omega, by simp, ⟨by simp⟩, HB, h0⟩
  case round =>
    clear HB
    obtain ⟨pre, x, rfl, hx0, hx1, h9, hS, HB, hJs⟩ := hrel
    have hc := blk_cell HB.out 0
    simp only [List.getElem?_toArray, List.getElem?_cons_zero] at hc
    have hsx : (data.extract x.toNat data.size).size = data.size - x.toNat := by rw [ByteArray.size_extract]; omega
    have hnx := hnext (data.extract x.toNat data.size) wr (by omega)
    have hln := nextS_len (data.extract x.toNat data.size)
    have hfu := scanL_step data (data.size - pre.length) x
    obtain ⟨q, hq⟩ : ∃ q, nextS (data.extract x.toNat data.size) = q := ⟨_, rfl⟩
    rw [hq] at hnx hln hfu
    clear hq
    obtain ⟨k1, p1, m1⟩ := q
    dsimp only at hnx hln hfu
    have HSX := Aside0.mk hsx
    have HNX := Aside0.mk hnx
    have HLN := Aside0.mk hln
    have HFU := Aside0.mk hfu
    clear hnx hln hfu hsx hnext
    have HY := Aside0.mk hY
    clear hY
    gi_wp2_with fail
    refine ⟨fun _ => by omega, ?_⟩
    refine HNX.out.mono ?_
    clear HNX
    rintro e w1 ⟨rfl, hb1⟩
    have HB1 := Aside0.mk hb1
    have HBn := Aside0.mk (blk_below HB.out hb1)
    clear hb1 hc
    have HJ2 : J pre (w1.alloc (.cells #[.int .i64 k1, .string p1] 37)) := HH.out _ _ _ none hJs (grown_of_below (below_alloc HB1.out _) none) (by simp)
    have hnew := blk_new w1 (.cells #[.int .i64 k1, .string p1] 37)
    by_cases hm : m1 = 0
    · subst hm
      gi_wp2
      refine ⟨fun _ h => (by cases h), ?_⟩
      gi_wp2
      refine bodyPost_ret (results_none rfl _ _ _) rfl ?_
      have e0 := HFU.out.resolve_right (fun z => z.1 rfl)
      exact ⟨⟨_, rfl⟩, .inl ⟨pre, by rw [hS.out, e0.2, List.append_nil], HJ2⟩⟩
    · obtain ⟨hm9, hmx⟩ := HLN.out.resolve_left hm
      rw [HSX.out] at hmx
      have hm' : (m1 == 0) = false := beq_eq_false_iff_ne.2 hm
      obtain ⟨fn, tmps, assign, body, hy, hR⟩ := HY.out pre (x + m1, ⟨k1, p1⟩) _ HJ2 (by omega)
      dsimp only [encs] at hy
      obtain ⟨f, hf⟩ : ∃ f, data.size - pre.length = f + 1 := ⟨data.size - pre.length - 1, by omega⟩
      have hS2 : scanL data.size data 0 = (pre ++ [(x + m1, (⟨k1, p1⟩ : S37))]) ++ scanL f data (x + m1) := by
        have e1 := (HFU.out.resolve_left (fun z => hm z.1)).2 f hf
        rw [hS.out, e1, List.append_assoc]
        rfl
      have hlen2 : data.size - (pre ++ [(x + m1, (⟨k1, p1⟩ : S37))]).length = f := by simp; omega
      have hl9 : 9 * ((pre ++ [(x + m1, (⟨k1, p1⟩ : S37))]).length : Int) ≤ x + m1 := by simp; omega
      have HS2 := Aside0.mk hS2
      have HL2 := Aside0.mk hlen2
      have HL9 := Aside0.mk hl9
      clear hS2 hlen2 hl9 hf
      gi_wp2
      refine ⟨fun _ => by omega, ?_⟩
      refine hR.mono ?_
      rintro e W3 (⟨rfl, hJ3, hk3⟩ | ⟨rfl, hJx3⟩)
      · have HK3 := Aside0.mk (hk3.trans (blk_alloc HBn.out _))
        clear hk3
        gi_wp2
        go_roundw
        case rel => exact ⟨pre ++ [(x + m1, ⟨k1, p1⟩)], x + m1, rfl, by omega, by omega, HL9.out, ⟨by rw [HL2.out]; exact HS2.out⟩, HK3, hJ3⟩
        case measure => simp [intOf]; omega
      · gi_wp2
        refine bodyPost_ret (results_none rfl _ _ _) rfl ?_
        exact ⟨⟨_, rfl⟩, .inr ⟨pre ++ [(x + m1, ⟨k1, p1⟩)], ⟨_, HS2.out.symm⟩, hJx3⟩⟩

/-- records(data) comes to a closure over the text's box. -/
theorem records_in (F : Fence) (n : Nat) (h49 : F.fn 49) (hro : F.round = none) (data : ByteArray) (w : World) :
    CallsIn F n Try.prog 49 #[.string data] w fun e w' => e = .returned (.func (.func 78) #[] #[.pointer (some ⟨w.heap.size, 0, none⟩)]) ∧ w' = w.alloc (.cells #[.string data] 9) := by
  refine callsIn_of_wp Try.func49 rfl h49 ?_ hro
  simp only [Try.ntmps49, List.size_toArray, List.length_cons, List.length_nil, Nat.reduceAdd, Nat.reduceSub, Array.replicate_succ, Array.replicate_zero, List.push_toArray, List.append_toArray, List.nil_append, List.cons_append]
  gi_wp2
  go_ret
  exact ⟨rfl, rfl⟩

end Go.Proofs.Ytnaddmkaakdhoaa.J
