/-
  Texts of this claim, joined, without what the claim does not use: X23a X23b J26
-/
import Derived.RangeFuncNested
import Derived.RangeFuncBound
import Derived.RangeFuncCalls
import Derived.RangeFuncLeaves
import Derived.Shelf.Abstract
import Derived.Shelf.RegionOpen
import Derived.WalkKit
import Derived.OwnWalkIn
import Derived.TacticsInMore
import Derived.LoopNIn
import Derived.LoopIn
import Derived.Test.YtnaddmkaakdhoaaSC9r
section
namespace Go.Proofs.Ytnaddmkaakdhoaa.J
open Go.RowKit Go.Shelf Go.Proofs.YtnaddmkaakdhoaaW.PrintWords Go.Proofs.YtnaddmkaakdhoaaW.PrintLast Go.Proofs.YtnaddmkaakdhoaaW.PrintMore
attribute [local go_sem] Oper.semAt_some
set_option linter.unusedVariables false
set_option linter.unusedSimpArgs false

def scanL : Nat → ByteArray → Int → List (Int × S37)
  | 0, _, _ => []
  | f + 1, s, at_ =>
    let r := nextS (s.extract at_.toNat s.size)
    if r.2.2 = 0 then [] else (at_ + r.2.2, ⟨r.1, r.2.1⟩) :: scanL f s (at_ + r.2.2)

abbrev encs (p : Int × S37) : Array Value := #[.int .i64 p.1, .agg #[.int .i64 p.2.f0, .string p.2.f1]]

theorem scanL_step (s : ByteArray) (f : Nat) (x : Int) : (nextS (s.extract x.toNat s.size)).2.2 = 0 ∧ scanL f s x = [] ∨ (nextS (s.extract x.toNat s.size)).2.2 ≠ 0 ∧ ∀ g, f = g + 1 → scanL f s x = (x + (nextS (s.extract x.toNat s.size)).2.2, ⟨(nextS (s.extract x.toNat s.size)).1, (nextS (s.extract x.toNat s.size)).2.1⟩) :: scanL g s (x + (nextS (s.extract x.toNat s.size)).2.2) := by
  by_cases h : (nextS (s.extract x.toNat s.size)).2.2 = 0
  · left
    refine ⟨h, ?_⟩
    cases f with
    | zero => rfl
    | succ f => simp only [scanL]; rw [if_pos h]
  · right
    refine ⟨h, ?_⟩
    rintro g rfl
    simp only [scanL]
    rw [if_neg h]

set_option maxRecDepth 100000 in
set_option maxHeartbeats 2000000 in
theorem records1_in (F : Fence) (n : Nat) (h78 : F.fn 78) (h79 : F.fn 79) (hro : F.round = none) (hn : 2 ≤ n)
    (hnext : ∀ (s : ByteArray) (w : World), s.size ≤ 1099511627776 → CallsIn F (n - 1) Try.prog 79 #[.string s] w fun e w' => e = .returned (.tuple #[.agg #[.int .i64 (nextS s).1, .string (nextS s).2.1], .int .i64 (nextS s).2.2]) ∧ Below w.heap.size w w')
    (l Bn : Nat) (data : ByteArray) (hsz : data.size ≤ 1099511627776) (J Jx : List (Int × S37) → World → Prop)
    (W : World) (hJ : AbidesFrom W.heap.size J) (hJx : AbidesFrom W.heap.size Jx)
    (hY : ∀ pre x W, J pre W → pre.length < data.size → YieldAt F (n - 1) Try.prog l (encs x) W fun e W' =>
      (e = .returned (.bool true) ∧ J (pre ++ [x]) W' ∧ W'.heap[Bn]? = W.heap[Bn]?) ∨ (e = .returned (.bool false) ∧ Jx (pre ++ [x]) W'))
    (hBn : W.heap[Bn]? = some (.cells #[.string data] 9 (0, 0))) (h0 : J [] W) :
    CallsIn F n Try.prog 78 #[.func (.yield l) #[] #[], .pointer (some ⟨Bn, 0, none⟩)] W fun e W' => (∃ v, e = .returned v) ∧
      ((∃ ys, ys = scanL data.size data 0 ∧ J ys W') ∨ (∃ pre, pre <+: scanL data.size data 0 ∧ Jx pre W')) := by
  have HH := Aside0.mk hJ
  have HHx := Aside0.mk hJx
  have HB := Aside0.mk hBn
  clear hJ hJx hBn
  refine callsIn_of_wp Try.func78 rfl h78 ?_ hro
  simp only [Try.ntmps78, List.size_toArray, List.length_cons, List.length_nil, Nat.reduceAdd, Nat.reduceSub, Array.replicate_succ, Array.replicate_zero, List.push_toArray, List.append_toArray, List.nil_append, List.cons_append]
  gi_wp2
  gi_loopw [3] (fun a wr => ∃ (pre : List (Int × S37)) (x : Int), a = .int .i64 x ∧ 0 ≤ x ∧ x ≤ data.size ∧ 9 * pre.length ≤ x ∧ Aside0 (scanL data.size data 0 = pre ++ scanL (data.size - pre.length) data x) ∧ Aside0 (wr.heap[Bn]? = some (.cells #[.string data] 9 (0, 0))) ∧ J pre wr)
    (fun a _ => data.size - (intOf a).toNat)
  case atStart => exact ⟨[], 0, rfl, by omega, by omega, by simp, ⟨by simp⟩, HB, h0⟩
  case round =>
    clear HB
    obtain ⟨pre, x, rfl, hx0, hx1, h9, hS, HB, hJs⟩ := hrel
    have hc := blk_cell HB.out 0
    simp only [List.getElem?_toArray, List.getElem?_cons_zero] at hc
    have hsx : (data.extract x.toNat data.size).size = data.size - x.toNat := by rw [ByteArray.size_extract]; omega
    have hnx := hnext (data.extract x.toNat data.size) wr (by omega)
    have hln := nextS_len (data.extract x.toNat data.size)
    have hfu := scanL_step data (data.size - pre.length) x
    obtain ⟨q, hq⟩ : ∃ q, nextS (data.extract x.toNat data.size) = q := ⟨_, rfl⟩
    rw [hq] at hnx hln hfu
    clear hq
    obtain ⟨k1, p1, m1⟩ := q
    dsimp only at hnx hln hfu
    have HSX := Aside0.mk hsx
    have HNX := Aside0.mk hnx
    have HLN := Aside0.mk hln
    have HFU := Aside0.mk hfu
    clear hnx hln hfu hsx hnext
    have HY := Aside0.mk hY
    clear hY
    gi_wp2_with fail
    refine ⟨fun _ => by omega, ?_⟩
    refine HNX.out.mono ?_
    clear HNX
    rintro e w1 ⟨rfl, hb1⟩
    have HB1 := Aside0.mk hb1
    have HBn := Aside0.mk (blk_below HB.out hb1)
    clear hb1 hc
    have HJ2 : J pre (w1.alloc (.cells #[.int .i64 k1, .string p1] 37)) := HH.out _ _ _ none hJs (grown_of_below (below_alloc HB1.out _) none) (by simp)
    have hnew := blk_new w1 (.cells #[.int .i64 k1, .string p1] 37)
    by_cases hm : m1 = 0
    · subst hm
      gi_wp2
      refine ⟨fun _ h => (by cases h), ?_⟩
      gi_wp2
      refine bodyPost_ret (results_none rfl _ _ _) rfl ?_
      have e0 := HFU.out.resolve_right (fun z => z.1 rfl)
      exact ⟨⟨_, rfl⟩, .inl ⟨pre, by rw [hS.out, e0.2, List.append_nil], HJ2⟩⟩
    · obtain ⟨hm9, hmx⟩ := HLN.out.resolve_left hm
      rw [HSX.out] at hmx
      have hm' : (m1 == 0) = false := beq_eq_false_iff_ne.2 hm
      obtain ⟨fn, tmps, assign, body, hy, hR⟩ := HY.out pre (x + m1, ⟨k1, p1⟩) _ HJ2 (by omega)
      dsimp only [encs] at hy
      obtain ⟨f, hf⟩ : ∃ f, data.size - pre.length = f + 1 := ⟨data.size - pre.length - 1, by omega⟩
      have hS2 : scanL data.size data 0 = (pre ++ [(x + m1, (⟨k1, p1⟩ : S37))]) ++ scanL f data (x + m1) := by
        have e1 := (HFU.out.resolve_left (fun z => hm z.1)).2 f hf
        rw [hS.out, e1, List.append_assoc]
        rfl
      have hlen2 : data.size - (pre ++ [(x + m1, (⟨k1, p1⟩ : S37))]).length = f := by simp; omega
      have hl9 : 9 * ((pre ++ [(x + m1, (⟨k1, p1⟩ : S37))]).length : Int) ≤ x + m1 := by simp; omega
      have HS2 := Aside0.mk hS2
      have HL2 := Aside0.mk hlen2
      have HL9 := Aside0.mk hl9
      clear hS2 hlen2 hl9 hf
      gi_wp2
      refine ⟨fun _ => by omega, ?_⟩
      refine hR.mono ?_
      rintro e W3 (⟨rfl, hJ3, hk3⟩ | ⟨rfl, hJx3⟩)
      · have HK3 := Aside0.mk (hk3.trans (blk_alloc HBn.out _))
        clear hk3
        gi_wp2
        go_roundw
        case rel => exact ⟨pre ++ [(x + m1, ⟨k1, p1⟩)], x + m1, rfl, by omega, by omega, HL9.out, ⟨by rw [HL2.out]; exact HS2.out⟩, HK3, hJ3⟩
        case measure => simp [intOf]; omega
      · gi_wp2
        refine bodyPost_ret (results_none rfl _ _ _) rfl ?_
        exact ⟨⟨_, rfl⟩, .inr ⟨pre ++ [(x + m1, ⟨k1, p1⟩)], ⟨_, HS2.out.symm⟩, hJx3⟩⟩

theorem records_in (F : Fence) (n : Nat) (h49 : F.fn 49) (hro : F.round = none) (data : ByteArray) (w : World) :
    CallsIn F n Try.prog 49 #[.string data] w fun e w' => e = .returned (.func (.func 78) #[] #[.pointer (some ⟨w.heap.size, 0, none⟩)]) ∧ w' = w.alloc (.cells #[.string data] 9) := by
  refine callsIn_of_wp Try.func49 rfl h49 ?_ hro
  simp only [Try.ntmps49, List.size_toArray, List.length_cons, List.length_nil, Nat.reduceAdd, Nat.reduceSub, Array.replicate_succ, Array.replicate_zero, List.push_toArray, List.append_toArray, List.nil_append, List.cons_append]
  gi_wp2
  go_ret
  exact ⟨rfl, rfl⟩

end Go.Proofs.Ytnaddmkaakdhoaa.J

end
section
namespace Go.Proofs.Ytnaddmkaakdhoaa.J
open Go.RowKit Go.Shelf Go.Proofs.YtnaddmkaakdhoaaW.PrintWords Go.Proofs.YtnaddmkaakdhoaaW.PrintLast Go.Proofs.YtnaddmkaakdhoaaW.PrintMore
attribute [local go_sem] Oper.semAt_some
set_option linter.unusedVariables false
set_option linter.unusedSimpArgs false

def flat (pre : List (Int × S37)) : List Value := pre.flatMap fun p => [.int .i64 p.2.f0, .string p.2.f1]
def lastAt (pre : List (Int × S37)) : Int := (pre.getLast?.map (·.1)).getD 0
theorem flat_snoc (pre : List (Int × S37)) (x : Int × S37) : flat (pre ++ [x]) = flat pre ++ [.int .i64 x.2.f0, .string x.2.f1] := by simp [flat]
theorem lastAt_snoc (pre : List (Int × S37)) (x : Int × S37) : lastAt (pre ++ [x]) = x.1 := by simp [lastAt]

def scanState (rest : ByteArray) : Int :=
  if rest.size = 0 then 0 else if rest.size < 9 ∨ (rest.size : Int) < 9 + g32 rest ∨ bt rest (rest.size - 1) = 0 then 1 else 2

def scanEnd (s : ByteArray) : Int := lastAt (scanL s.size s 0)
def journal_Scan.f (a0 : ByteArray) : Option (List S37 × Int × Int) :=
  if a0.size ≤ 1099511627776 then some ((scanL a0.size a0 0).map (·.2), scanEnd a0, scanState (a0.extract (scanEnd a0).toNat a0.size)) else none

theorem scanL_at : ∀ (f : Nat) (s : ByteArray) (x : Int), 0 ≤ x → x ≤ s.size → ∀ p ∈ scanL f s x, x ≤ p.1 ∧ p.1 ≤ s.size
  | 0, _, _, _, _, p, hp => by simp [scanL] at hp
  | f + 1, s, x, h0, h1, p, hp => by
    simp only [scanL] at hp
    have hl := nextS_len (s.extract x.toNat s.size)
    have hsx : (s.extract x.toNat s.size).size = s.size - x.toNat := by rw [ByteArray.size_extract]; omega
    split at hp
    · simp at hp
    · rename_i hne
      have hl := hl.resolve_left hne
      rcases List.mem_cons.1 hp with rfl | hp
      · dsimp only; omega
      · have := scanL_at f s _ (by omega) (by omega) p hp
        omega
theorem lastAt_le (s : ByteArray) : 0 ≤ lastAt (scanL s.size s 0) ∧ lastAt (scanL s.size s 0) ≤ s.size := by
  unfold lastAt
  cases h : (scanL s.size s 0).getLast? with
  | none => simp
  | some p =>
    have := scanL_at s.size s 0 (by omega) (by omega) p (List.mem_of_getLast? h)
    exact this

theorem scan_end (a0 : ByteArray) (r1 : List S37) (r2 r3 : Int) (h : some ((scanL a0.size a0 0).map (·.2), scanEnd a0, scanState (a0.extract (scanEnd a0).toNat a0.size)) = some (r1, r2, r3)) : r1 = (scanL a0.size a0 0).map (·.2) ∧ r2 = scanEnd a0 ∧ r3 = scanState (a0.extract (scanEnd a0).toNat a0.size) := by
  simp only [Option.some.injEq, Prod.mk.injEq] at h
  exact ⟨h.1.symm, h.2.1.symm, h.2.2.symm⟩
theorem isEmpty_iff (s : ByteArray) : s.toList.isEmpty = true ↔ s.size = 0 := by
  rw [ByteArray.toList_eq, List.isEmpty_iff, ← List.length_eq_zero_iff, data_length]
theorem flat_reps (w : World) (base : Nat) (ok : Nat → Prop) : ∀ (n : Nat) (ys : List (Int × S37)), ys.length = n → Reps (k37.M w base ok) 2 (ys.map (·.2)) (flat ys)
  | 0, ys, h => by
    obtain rfl := List.length_eq_zero_iff.1 h
    exact Reps.none _ _
  | n + 1, ys, h => by
    have hne : ys ≠ [] := by intro e; rw [e] at h; cases h
    have e := List.dropLast_concat_getLast hne
    have ih := flat_reps w base ok n ys.dropLast (by rw [List.length_dropLast]; omega)
    rw [← e, List.map_append, flat_snoc]
    exact ih.snoc (k37_mkM _ _ _ _) rfl
theorem scan_fin {w W : World} {v : Value} {ys : List (Int × S37)} {D : Nat} (hrow : W.ownsRow w.heap.size 37 2 v ys.length (flat ys)) (hK : W.heap[D]? = some (.deferred (some []))) (hB : Below w.heap.size w W) (hD : w.heap.size ≤ D) :
    Kd.R k37 37 (W.putObj D (.deferred none)) w.heap.size (fun _ => True) v (ys.map (·.2)) ∧ Below w.heap.size w (W.putObj D (.deferred none)) := by
  refine ⟨⟨fun _ _ => trivial, flat ys, ?_, flat_reps _ _ _ _ ys rfl⟩, hB.trans (belowK_b (w := w) (Nat.le_refl _) W D _ _ hD hK rfl rfl)⟩
  rw [List.length_map]
  exact ownsRow_putObj hrow _ hK rfl

theorem next_calls (s : ByteArray) (w : World) (h : s.size ≤ 1099511627776) (n : Nat) :
    CallsIn Fence.wide n Try.prog 79 #[.string s] w fun e w' => e = .returned (.tuple #[.agg #[.int .i64 (nextS s).1, .string (nextS s).2.1], .int .i64 (nextS s).2.2]) ∧ Below w.heap.size w w' :=
  callsIn_wide.2 (journal_next.calls 1 s _ _ _ w (next_f s h 0))

theorem scan_stops (Bn : Nat) (data : ByteArray) (hsz : data.size ≤ 1099511627776) (w : World) (hBn : w.heap[Bn]? = some (.cells #[.string data] 9 (0, 0))) :
    SeqStopsK Fence.wide 2 Try.prog 78 #[.pointer (some ⟨Bn, 0, none⟩)] encs (fun A B => B.heap[Bn]? = A.heap[Bn]?) (fun ys => ys = scanL data.size data 0) (fun pre => pre <+: scanL data.size data 0) data.size w :=
  fun l J Jx W hW hJ hJx hY h0 => records1_in Fence.wide 2 trivial trivial rfl (by omega) (fun s w h => next_calls s w h _) l Bn data hsz J Jx W hJ hJx hY (blk_below hBn hW) h0

theorem blk_from {β : Type} (B Bn : Nat) (cs : Array Value) (t : TypeId) (fr : Nat × Nat) : OwnFrom B (fun (_ : β) W => W.heap[Bn]? = some (.cells cs t fr)) := by
  intro _ X Y row hs hg hr
  refine (hg.block Bn (Array.getElem?_eq_some_iff.1 hs).1 (fun e => ?_)).trans hs
  obtain ⟨_, o, ho, hc⟩ := hr Bn e.symm
  rw [hs] at ho
  cases ho
  cases hc
theorem new_cells (W : World) (cs : List Value) (t : TypeId) : ∀ j u, cs[j]? = some u → (W.alloc (.cells cs.toArray t)).cell? ((⟨W.heap.size, 0, none⟩ : Addr).add j) = some u := by
  intro j u h
  rw [add_plain, blk_cell (blk_new W _)]
  simpa using h

def InvS (w : World) (a0 : ByteArray) (pre : List (Int × S37)) (W : World) : Prop :=
  ((∃ v, Boxed W w.heap.size 26 v ∧ W.ownsRow w.heap.size 37 2 v pre.length (flat pre) ∧ True) ∧ (W.heap[w.heap.size + 1]? = some (.cells #[.int .i64 (lastAt pre)] 3 (0, 0)) ∧ W.heap[w.heap.size + 1 + 1]? = some (.cells #[.string a0] 9 (0, 0)))) ∧ Below w.heap.size w W
theorem lastbox_from (B Bn : Nat) : OwnFrom B (fun (pre : List (Int × S37)) W => W.heap[Bn]? = some (.cells #[.int .i64 (lastAt pre)] 3 (0, 0))) := fun pre X Y row hs hg hr => blk_from (β := Unit) B Bn _ _ _ () X Y row hs hg hr
theorem InvS.own (w : World) (a0 : ByteArray) (B : Nat) (hB : w.heap.size ≤ B) : OwnFrom B (InvS w a0) :=
  OwnFrom.and (OwnFrom.and (Own.from (holdsRow_own w.heap.size w.heap.size 26 37 2 (fun pre => pre.length) flat (fun _ _ => True)) _) (OwnFrom.and (lastbox_from _ _) (blk_from _ _ _ _ _))) (ownFrom_below (Nat.le_refl _) hB)

def AxS (a0 : ByteArray) (w : World) (x : Int × S37) (a' : Act) (W : World) : Prop :=
  ∃ Bx, W.heap[Bx]? = some (.cells #[.int .i64 x.2.f0, .string x.2.f1] 37 (0, 0)) ∧ a' = Act.mk (#[.string a0, undef, .slice none 0 0, .int .i64 0, .int .i64 0,
          .pointer (some ⟨w.heap.size, 0, none⟩), .pointer (some ⟨w.heap.size + 1, 0, none⟩), .int .i64 x.1, .pointer (some ⟨Bx, 0, none⟩), undef, .string a0,
          .func (.func 78) #[] #[.pointer (some ⟨w.heap.size + 1 + 1, 0, none⟩)], .int .i64 x.1, .agg #[.int .i64 x.2.f0, .string x.2.f1],
          undef, undef, undef, undef, undef, undef, undef, undef, undef, undef, undef, undef, undef, undef, undef,
          undef, undef, undef, undef, undef, undef, undef, undef, undef, undef, undef, undef, undef, undef, undef,
          undef, undef, undef, undef, undef, undef, undef, undef]) []

set_option maxRecDepth 100000 in
set_option maxHeartbeats 8000000 in
theorem journal_Scan.calls (a0 : ByteArray) (r1 : List S37) (r2 r3 : Int) (w : World) (h : journal_Scan.f a0 = some (r1, r2, r3)) :
    Calls Try.prog 23 #[.string a0] w fun e w' => ∃ v0_ : Value, e = .returned (.tuple #[v0_, .int .i64 r2, .int .i64 r3]) ∧ Kd.R k37 37 w' w.heap.size (fun _ => True) v0_ r1 ∧ Below w.heap.size w w' := by
  unfold journal_Scan.f at h
  obtain ⟨hsz, h⟩ : a0.size ≤ 1099511627776 ∧ some ((scanL a0.size a0 0).map (·.2), scanEnd a0, scanState (a0.extract (scanEnd a0).toNat a0.size)) = some (r1, r2, r3) := by
    split at h
    · exact ⟨‹_›, h⟩
    · cases h
  have HH := Aside0.mk h
  clear h
  refine (callsIn_wide (n := 3)).1 ?_
  refine callsIn_of_wp_marks Try.func23 rfl trivial ?_ rfl
  simp only [Try.ntmps23, List.size_toArray, List.length_cons, List.length_nil, Nat.reduceAdd, Nat.reduceSub, Array.replicate_succ, Array.replicate_zero, List.push_toArray, List.append_toArray, List.nil_append, List.cons_append]
  gi_wp2_with fail
  refine ⟨trivial, ?_⟩
  refine (records_in Fence.wide _ trivial rfl _ _).mono ?_
  rintro e w' ⟨rfl, rfl⟩
  gi_wp2
  obtain ⟨i0, hi, hz0, hz1, hz2⟩ := info_parts info37
  obtain ⟨W0, hW0⟩ : ∃ W0, (((w.alloc (.cells #[.slice none 0 0] 26)).alloc (.cells #[.int .i64 0] 3)).alloc (.cells #[.string a0] 9)) = W0 := ⟨_, rfl⟩
  have hI0 : InvS w a0 [] W0 := by
    subst hW0
    refine ⟨⟨⟨.slice none 0 0, ((Boxed.new w 26 _).alloc _).alloc _, World.ownsRow_nil _ _ _ _, trivial⟩, ?_, ?_⟩, ?_⟩
    · have := blk_alloc (blk_new (w.alloc (.cells #[.slice none 0 0] 26)) (.cells #[.int .i64 0] 3)) (.cells #[.string a0] 9)
      rw [show lastAt [] = 0 from rfl]
      simpa using this
    · have := blk_new ((w.alloc (.cells #[.slice none 0 0] 26)).alloc (.cells #[.int .i64 0] 3)) (.cells #[.string a0] 9)
      simpa using this
    · exact below_alloc (below_alloc (below_alloc (Below.refl _ w) _) _) _
  have hs0 : W0.heap.size = w.heap.size + 1 + 1 + 1 := by subst hW0; simp
  rw [hW0]
  clear hW0
  refine wpIn_rangeFunc_ownH rfl (by omega) (gf := 78) (lb := #[.pointer (some ⟨w.heap.size + 1 + 1, 0, none⟩)]) rfl trivial (enters_of Try.func78 (by kernel_rfl) rfl)
    (scan_stops (w.heap.size + 1 + 1) a0 hsz W0 hI0.1.2.2) (fun h k => k.trans h) (fun W l o o' hl ho _ _ => World.putObj_heap_other (by omega)) (Below.refl _ _) (fun _ => rfl)
    (InvS w a0) (fun _ _ _ => False) (InvS.own w a0 _ (by omega)) (fun _ _ _ _ _ hs _ _ => hs) hI0 (AxS a0 w) ?hax ?assign ?body ?done ?stop
  case hax =>
    rintro x a' _ X Y row ⟨Bx, h1, h2⟩ hg hr
    exact ⟨Bx, blk_from (β := Unit) _ Bx _ _ _ () X Y row h1 hg hr, h2⟩
  case assign =>
    rintro l pre x W K hi hK
    gi_wp2
    have hx := blk_new W (.cells #[.int .i64 x.2.f0, .string x.2.f1] 37)
    refine hK _ _ ((KeepsOthers.alloc _ _).from _) (Below.heap_alloc W _ _ (blk_lt hi.1.2.2)) ?_ ⟨W.heap.size, hx, rfl⟩
    obtain ⟨⟨⟨v, hv, hr, _⟩, hl, hd⟩, hB⟩ := hi
    exact ⟨⟨⟨v, hv.alloc _, hr.alloc _, trivial⟩, blk_alloc hl _, blk_alloc hd _⟩, below_alloc hB _⟩
  case body =>
    rintro l pre x a' W hl ⟨r, hr⟩ ⟨⟨⟨v, hv, hrow, _⟩, hla, hda⟩, hB⟩ ⟨Bx, hx, rfl⟩ hlt
    have hc := hv.cell
    have hx0 := blk_cell hx 0
    have hx1 := blk_cell hx 1
    simp only [List.getElem?_toArray, List.getElem?_cons_zero, List.getElem?_cons_succ] at hx0 hx1
    have hBs := hB.size
    have hpl : pre.length < 1099511627776 := by omega
    gi_wp2_with (gi_at_builtin; refine wpListIn_append_own _ rfl _ _ 26 rfl w.heap.size 37 i0 (.agg #[.int .i64 0, .string ⟨#[]⟩]) 2 24 Try.underlying26 hi hz0 hz1 hz2 rfl (by decide) _ _ _ rfl (hrow.alloc _) ⟨W.heap.size, 0, none⟩ 1 1 [.int .i64 x.2.f0, .string x.2.f1] rfl rfl (new_cells W [.int .i64 x.2.f0, .string x.2.f1] 37) (by simp [Value.oneCell']) (by unfold maxLen; omega) (by omega) (by simp; omega) ?_; intro v' w1 hown' hgrow _; obtain ⟨g', cap', rfl⟩ := ownsRow_succ hown'; obtain ⟨hv1, hv2, hr2, hk2, hb2⟩ := hv.appended (by decide) hrow hBs (Nat.le_refl _) hown' hgrow; have hc1 := hv1.cell; have hf1 := hv1.frozen; have hla1 : Boxed w1 (w.heap.size + 1) 3 (.int .i64 (lastAt pre)) := Boxed.kept (Boxed.alloc hla _) hgrow (Boxed.not_row hla (by decide) hrow); have hda1 : w1.heap[w.heap.size + 1 + 1]? = some (.cells #[.string a0] 9 (0, 0)) := Boxed.kept (Boxed.alloc hda _) hgrow (Boxed.not_row hda (by decide) hrow); have hc2 := hla1.cell; have hf2 := hla1.frozen)
    have hla2 := Boxed.other hla1 (show w.heap.size + 1 ≠ w.heap.size by omega) (.slice (some ⟨g', 0, none⟩) (pre.length + 1) cap')
    have hda2 := blk_far (blk_far hda1 (p := ⟨w.heap.size, 0, none⟩) (show w.heap.size + 1 + 1 ≠ w.heap.size by omega) (.slice (some ⟨g', 0, none⟩) (pre.length + 1) cap')) (p := ⟨w.heap.size + 1, 0, none⟩) (show w.heap.size + 1 + 1 ≠ w.heap.size + 1 by omega) (.int .i64 x.1)
    refine ⟨(hk2.trans (KeepsOthers.setCell _ _ _)).from _, hda2.trans hda.symm, ⟨⟨⟨_, Boxed.other hv2 (show w.heap.size ≠ w.heap.size + 1 by omega) _, ?_, trivial⟩, ?_, hda2⟩, (hB.trans hb2).setCell (p := ⟨w.heap.size + 1, 0, none⟩) (Nat.le_succ _) _⟩⟩
    · rw [flat_snoc, List.length_append]
      exact own_setCell hr2 (Boxed.not_row hla2 (by decide) hr2) _
    · rw [lastAt_snoc]
      exact hla2.set _
  case done =>
    rintro D ys W hD hys ⟨⟨⟨v, hv, hrow, _⟩, hla, hda⟩, hB⟩ hK
    have hc := hv.cell
    have hc2 := Boxed.cell hla
    obtain ⟨hE0, hE1⟩ : 0 ≤ lastAt ys ∧ lastAt ys ≤ a0.size := by rw [hys]; exact lastAt_le a0
    have hE : lastAt ys = scanEnd a0 := by rw [hys]; rfl
    obtain ⟨EE, HE⟩ : ∃ EE, Aside0 (scanEnd a0 = EE) := ⟨_, ⟨rfl⟩⟩
    rw [hE, HE.out] at hc2 hE0 hE1
    clear hE
    have hBsz := hB.size
    have HDD := Aside0.mk (show w.heap.size ≤ D by omega)
    have hRs : (a0.extract EE.toNat a0.size).size = a0.size - EE.toNat := by rw [ByteArray.size_extract]; omega
    have HRs := Aside0.mk hRs
    have HFIN := Aside0.mk (scan_end a0 r1 r2 r3 HH.out)
    rw [HE.out] at HFIN
    clear HH hRs
    have HY := Aside0.mk hys
    clear hys
    gi_wp2_with fail
    · have he : (a0.extract EE.toNat a0.size).toList.isEmpty = true := by assumption
      refine wpIn_wide.2 ?_
      go_quiet (fail)
      gi_wp2
      have hK' : (W.drewN nq).heap[D]? = some (.deferred (some [])) := hK
      refine ⟨by simp, .inl ⟨_, _, rfl, run_takeDeferred hK', ?_⟩⟩
      obtain ⟨hR, hb⟩ := scan_fin (D := D) (W := W.drewN nq) hrow hK' (pw_below_drewN hB nq) HDD.out
      obtain ⟨rfl, rfl, rfl⟩ := HFIN.out
      rw [HY.out] at hR
      refine ⟨.tuple #[v, .int .i64 r2, .int .i64 0], by simp [results, Try.results23, go_sem], v, ?_, hR, hb⟩
      have hz : (a0.extract r2.toNat a0.size).size = 0 := by
        exact (isEmpty_iff _).1 he
      unfold scanState
      rw [if_pos hz]
    · have h9 : 9 ≤ ((a0.size - EE.toNat : Nat) : Int) := by assumption
      have he : (a0.extract EE.toNat a0.size).toList.isEmpty = false := by assumption
      refine ⟨trivial, ?_⟩
      obtain ⟨g, HG⟩ : ∃ g, Aside0 (g32 (a0.extract EE.toNat a0.size) = g) := ⟨_, ⟨rfl⟩⟩
      have hgf := get_f (a0.extract EE.toNat a0.size) (by rw [HRs.out]; omega)
      have hgr := g32_range (a0.extract EE.toNat a0.size)
      rw [HG.out] at hgf hgr
      refine (callsIn_wide.2 (journal_get.calls _ _ _ hgf)).mono ?_
      rintro e w' ⟨rfl, ⟨m1, rfl⟩⟩
      obtain ⟨hg0, hg1⟩ := hgr
      clear hgf
      have hix : ∀ h : a0.size - EE.toNat - 1 < (a0.extract EE.toNat a0.size).size, (((a0.extract EE.toNat a0.size)[a0.size - EE.toNat - 1]'h).toNat : Int) = bt (a0.extract EE.toNat a0.size) (((a0.size - EE.toNat : Nat) : Int) - 1) := by
        intro h
        have e := bt_at (a0.extract EE.toNat a0.size) (((a0.size - EE.toNat : Nat) : Int) - 1)
        have e2 : (((a0.size - EE.toNat : Nat) : Int) - 1).toNat = a0.size - EE.toNat - 1 := by omega
        have e3 := e (by rw [e2]; exact h)
        rw [← e3]
        simp only [e2]
      obtain ⟨lb, HLB⟩ : ∃ lb, Aside0 (bt (a0.extract EE.toNat a0.size) (((a0.size - EE.toNat : Nat) : Int) - 1) = lb) := ⟨_, ⟨rfl⟩⟩
      rw [HLB.out] at hix
      have hi1 : a0.size - EE.toNat - 1 < a0.size - EE.toNat := by omega
      have hRI : ((a0.extract EE.toNat a0.size).size : Int) = ((a0.size - EE.toNat : Nat) : Int) := by rw [HRs.out]
      have HRI := Aside0.mk hRI
      clear hRI
      by_cases hlt : ((a0.size - EE.toNat : Nat) : Int) < 9 + g
      · clear hix hi1
        gi_wp2_with fail
        refine wpIn_wide.2 ?_
        go_quiet (fail)
        gi_wp2
        have hK' : ((W.drewN m1).drewN nq).heap[D]? = some (.deferred (some [])) := hK
        refine ⟨by simp, .inl ⟨_, _, rfl, run_takeDeferred hK', ?_⟩⟩
        obtain ⟨hR, hb⟩ := scan_fin (D := D) (W := (W.drewN m1).drewN nq) hrow hK' (pw_below_drewN (pw_below_drewN hB m1) nq) HDD.out
        obtain ⟨rfl, rfl, rfl⟩ := HFIN.out
        rw [HY.out] at hR
        refine ⟨.tuple #[v, .int .i64 r2, .int .i64 1], by simp [results, Try.results23, go_sem], v, ?_, hR, hb⟩
        unfold scanState
        rw [if_neg (fun z => by rw [(isEmpty_iff _).2 z] at he; cases he), if_pos (.inr (.inl (by rw [HRI.out, HG.out]; exact hlt)))]
      · by_cases hz : lb = 0
        · have hz1 := beq_iff_eq.2 hz
          have HZ := Aside0.mk hz
          clear hz
          gi_wp2_with fail
          refine wpIn_wide.2 ?_
          go_quiet (fail)
          gi_wp2
          clear hix hi1
          have hK' : ((W.drewN m1).drewN nq).heap[D]? = some (.deferred (some [])) := hK
          refine ⟨by simp, .inl ⟨_, _, rfl, run_takeDeferred hK', ?_⟩⟩
          obtain ⟨hR, hb⟩ := scan_fin (D := D) (W := (W.drewN m1).drewN nq) hrow hK' (pw_below_drewN (pw_below_drewN hB m1) nq) HDD.out
          obtain ⟨rfl, rfl, rfl⟩ := HFIN.out
          rw [HY.out] at hR
          refine ⟨.tuple #[v, .int .i64 r2, .int .i64 1], by simp [results, Try.results23, go_sem], v, ?_, hR, hb⟩
          unfold scanState
          rw [if_neg (fun z => by rw [(isEmpty_iff _).2 z] at he; cases he), if_pos (.inr (.inr (by rw [HRI.out, HLB.out]; exact HZ.out)))]
        · have hz1 := beq_eq_false_iff_ne.2 hz
          gi_wp2_with fail
          refine wpIn_wide.2 ?_
          go_quiet (fail)
          gi_wp2
          clear hix hi1
          have hK' : ((W.drewN m1).drewN nq).heap[D]? = some (.deferred (some [])) := hK
          refine ⟨by simp, .inl ⟨_, _, rfl, run_takeDeferred hK', ?_⟩⟩
          obtain ⟨hR, hb⟩ := scan_fin (D := D) (W := (W.drewN m1).drewN nq) hrow hK' (pw_below_drewN (pw_below_drewN hB m1) nq) HDD.out
          obtain ⟨rfl, rfl, rfl⟩ := HFIN.out
          rw [HY.out] at hR
          refine ⟨.tuple #[v, .int .i64 r2, .int .i64 2], by simp [results, Try.results23, go_sem], v, ?_, hR, hb⟩
          unfold scanState
          rw [if_neg (fun z => by rw [(isEmpty_iff _).2 z] at he; cases he), if_neg (by rw [HRI.out, HRs.out, HG.out, HLB.out]; rintro (z | z | z) <;> first | omega | exact hz z)]
    · have h9 : ((a0.size - EE.toNat : Nat) : Int) < 9 := by assumption
      have he : (a0.extract EE.toNat a0.size).toList.isEmpty = false := by assumption
      refine ⟨trivial, ?_⟩
      gi_wp2_with fail
      refine wpIn_wide.2 ?_
      go_quiet (fail)
      gi_wp2
      have hK' : (W.drewN nq).heap[D]? = some (.deferred (some [])) := hK
      refine ⟨by simp, .inl ⟨_, _, rfl, run_takeDeferred hK', ?_⟩⟩
      obtain ⟨hR, hb⟩ := scan_fin (D := D) (W := W.drewN nq) hrow hK' (pw_below_drewN hB nq) HDD.out
      obtain ⟨rfl, rfl, rfl⟩ := HFIN.out
      rw [HY.out] at hR
      refine ⟨.tuple #[v, .int .i64 r2, .int .i64 1], by simp [results, Try.results23, go_sem], v, ?_, hR, hb⟩
      unfold scanState
      rw [if_neg (fun z => by rw [(isEmpty_iff _).2 z] at he; cases he), if_pos (.inl (by rw [HRs.out]; omega))]
  case stop =>
    rintro D c pre W _ _ h _
    exact h.elim
end Go.Proofs.Ytnaddmkaakdhoaa.J

end
section
namespace Go.Proofs.Ytnaddmkaakdhoaa.J
open Go.RowKit Go.Proofs.YtnaddmkaakdhoaaW.PrintWords Go.Proofs.YtnaddmkaakdhoaaW.PrintLast Go.Proofs.YtnaddmkaakdhoaaW.PrintMore
attribute [local go_sem] max2_int min2_int max_two min_two max_three min_three max_four min_four   -- for this text's walks alone
set_option linter.unusedVariables false
set_option linter.unusedSimpArgs false

def corporalaw40_known.f (k : Nat)  : Option (Bool) := (journal_Scan.f (⟨#[0, 0, 0, 0, 0, 0, 0, 0, 0]⟩ : ByteArray)).bind fun bt101 => ((journal_Encode.f k 2 (⟨#[116]⟩ : ByteArray)).bind fun bt106 => ((journal_Scan.f bt106.1).bind fun bt108 => (if (bt101.1.length : Int) = 0 then (if bt101.2.1 = 0 then (if bt101.2.2 = 1 then (if bt106.2 = 0 then (if (bt106.1.size : Int) = 10 then (if (bt108.1.length : Int) = 1 then (if bt108.2.1 = 10 then (some (bt108.2.2 == 0)) else (some false)) else (some false)) else (some false)) else (some false)) else (some false)) else (some false)) else (some false))))
theorem corporalaw40_known.mono : ∀ k, LeO (corporalaw40_known.f k ) (corporalaw40_known.f (k + 1) ) := by
  intro  k
  unfold corporalaw40_known.f
  repeat' first
      | (with_reducible exact journal_Encode.mono _ _ _)
      | (with_reducible exact LeO.refl _)
      | (with_reducible exact LeO.none _)
      | (with_reducible refine LeO.ite ?_ ?_)
      | (with_reducible refine LeO.bind ?_ (fun _ => ?_))
      | exact journal_Encode.mono _ _ _
      | exact LeO.none _
      | refine LeO.ite ?_ ?_
      | refine LeO.bind ?_ (fun _ => ?_)
set_option maxHeartbeats 8000000 in
set_option maxRecDepth 100000 in
theorem corporalaw40_known.calls (k : Nat)  (r : Bool) (w : World) (h : corporalaw40_known.f k  = some r) :
    Calls Try.prog 26 #[] w fun e w' => e = .returned (.bool r) ∧ Below w.heap.size w w' := by
  have hu37 := Try.underlying37
  have HB := Aside0.mk (Below.refl w.heap.size w)
  have H : ((journal_Scan.f (⟨#[0, 0, 0, 0, 0, 0, 0, 0, 0]⟩ : ByteArray)).bind fun bt101 => ((journal_Encode.f k 2 (⟨#[116]⟩ : ByteArray)).bind fun bt106 => ((journal_Scan.f bt106.1).bind fun bt108 => (if (bt101.1.length : Int) = 0 then (if bt101.2.1 = 0 then (if bt101.2.2 = 1 then (if bt106.2 = 0 then (if (bt106.1.size : Int) = 10 then (if (bt108.1.length : Int) = 1 then (if bt108.2.1 = 10 then (some (bt108.2.2 == 0)) else (some false)) else (some false)) else (some false)) else (some false)) else (some false)) else (some false)) else (some false))))) = some r := h
  clear h
  replace H := Option.bind_eq_some_iff.mp H
  obtain ⟨⟨t101, t102, t103⟩, A10, H⟩ := H
  replace H : ((journal_Encode.f k 2 (⟨#[116]⟩ : ByteArray)).bind fun bt106 => ((journal_Scan.f bt106.1).bind fun bt108 => (if (t101.length : Int) = 0 then (if t102 = 0 then (if t103 = 1 then (if bt106.2 = 0 then (if (bt106.1.size : Int) = 10 then (if (bt108.1.length : Int) = 1 then (if bt108.2.1 = 10 then (some (bt108.2.2 == 0)) else (some false)) else (some false)) else (some false)) else (some false)) else (some false)) else (some false)) else (some false)))) = some r := H
  have A1 := Aside0.mk A10
  clear A10
  replace H := Option.bind_eq_some_iff.mp H
  obtain ⟨⟨t106, t107⟩, A20, H⟩ := H
  replace H : ((journal_Scan.f t106).bind fun bt108 => (if (t101.length : Int) = 0 then (if t102 = 0 then (if t103 = 1 then (if t107 = 0 then (if (t106.size : Int) = 10 then (if (bt108.1.length : Int) = 1 then (if bt108.2.1 = 10 then (some (bt108.2.2 == 0)) else (some false)) else (some false)) else (some false)) else (some false)) else (some false)) else (some false)) else (some false))) = some r := H
  have A2 := Aside0.mk A20
  clear A20
  replace H := Option.bind_eq_some_iff.mp H
  obtain ⟨⟨t108, t109, t110⟩, A30, H⟩ := H
  replace H : (if (t101.length : Int) = 0 then (if t102 = 0 then (if t103 = 1 then (if t107 = 0 then (if (t106.size : Int) = 10 then (if (t108.length : Int) = 1 then (if t109 = 10 then (some (t110 == 0)) else (some false)) else (some false)) else (some false)) else (some false)) else (some false)) else (some false)) else (some false)) = some r := H
  have A3 := Aside0.mk A30
  clear A30
  by_cases c4 : (t101.length : Int) = 0
  · rw [if_pos c4] at H
    have c4b0 : ((t101.length : Int) == 0) = true := beq_iff_eq.mpr c4
    have c4b1 : ((t101.length : Int) != 0) = false := bne_eq_false_iff_eq.mpr c4
    clear c4
    by_cases c5 : t102 = 0
    · rw [if_pos c5] at H
      have c5b0 : (t102 == 0) = true := beq_iff_eq.mpr c5
      have c5b1 : (t102 != 0) = false := bne_eq_false_iff_eq.mpr c5
      clear c5
      by_cases c6 : t103 = 1
      · rw [if_pos c6] at H
        have c6b0 : (t103 == 1) = true := beq_iff_eq.mpr c6
        have c6b1 : (t103 != 1) = false := bne_eq_false_iff_eq.mpr c6
        clear c6
        by_cases c7 : t107 = 0
        · rw [if_pos c7] at H
          have c7b0 : (t107 == 0) = true := beq_iff_eq.mpr c7
          have c7b1 : (t107 != 0) = false := bne_eq_false_iff_eq.mpr c7
          clear c7
          by_cases c8 : (t106.size : Int) = 10
          · rw [if_pos c8] at H
            have c8b0 : ((t106.size : Int) == 10) = true := beq_iff_eq.mpr c8
            have c8b1 : ((t106.size : Int) != 10) = false := bne_eq_false_iff_eq.mpr c8
            clear c8
            by_cases c9 : (t108.length : Int) = 1
            · rw [if_pos c9] at H
              have c9b0 : ((t108.length : Int) == 1) = true := beq_iff_eq.mpr c9
              have c9b1 : ((t108.length : Int) != 1) = false := bne_eq_false_iff_eq.mpr c9
              clear c9
              by_cases c10 : t109 = 10
              · rw [if_pos c10] at H
                have c10b0 : (t109 == 10) = true := beq_iff_eq.mpr c10
                have c10b1 : (t109 != 10) = false := bne_eq_false_iff_eq.mpr c10
                clear c10
                obtain rfl := Option.some.inj H
                go_enter Try.func26, Try.ntmps26
                go_wp2_with (first | ((with_reducible refine gate_callee (f := 23) rfl ?_); refine goesL_ (some 10) rfl rfl Try.func23 (by kernel_rfl) rfl #[.string (⟨#[0, 0, 0, 0, 0, 0, 0, 0, 0]⟩ : ByteArray)] rfl (by (try simp only [List.map_toArray, List.map_cons, List.map_nil]); first | done | rfl | (simp only [List.length_drop, List.length_take]; rfl)) ?_; (with_reducible refine (journal_Scan.calls (⟨#[0, 0, 0, 0, 0, 0, 0, 0, 0]⟩ : ByteArray) t101 t102 t103 _ A1.out).mono ?_); rintro e w11 ⟨v104, rfl, ho0, hb⟩; refine ⟨_, rfl, ?_⟩; have n0_ := Aside0.mk (Kd.R_lower ho0 (below_size (by repeat (first | (with_reducible first | exact HB.out | apply below_alloc | apply pw_below_drewN | apply below_drew1) | exact HB.out)))); have n1_ := Aside0.mk (below_step (by repeat (first | (with_reducible first | exact HB.out | apply below_alloc | apply pw_below_drewN | apply below_drew1) | exact HB.out)) hb); clear HB; have HO105 := n0_; have HB := n1_; clear n0_ n1_; (try clear hb); (try clear hb2); (try clear hk); (try clear hi); (try clear ho0)) | ((with_reducible refine gate_callee (f := 29) rfl ?_); refine goesL_ (some 16) rfl rfl Try.func29 (by kernel_rfl) rfl #[.agg #[.int .i64 2, .string (⟨#[116]⟩ : ByteArray)]] rfl (by (try simp only [List.map_toArray, List.map_cons, List.map_nil]); first | done | rfl | (simp only [List.length_drop, List.length_take]; rfl)) ?_; (with_reducible refine (journal_Encode.calls k 2 (⟨#[116]⟩ : ByteArray) t106 t107 _ A2.out).mono ?_); rintro e w12 ⟨rfl, hb⟩; refine ⟨_, rfl, ?_⟩; have n0_ := Aside0.mk (Kd.R_below (by (with_reducible repeat (first | apply Kd.R_alloc | apply Kd.R_drewN | apply Kd.R_drew)); exact HO105.out) hb); have n1_ := Aside0.mk (below_step (by repeat (first | (with_reducible first | exact HB.out | apply below_alloc | apply pw_below_drewN | apply below_drew1) | exact HB.out)) hb); clear HO105; clear HB; have HO105 := n0_; have HB := n1_; clear n0_ n1_; (try clear hb); (try clear hb2); (try clear hk); (try clear hi)) | ((with_reducible refine gate_callee (f := 23) rfl ?_); refine goesL_ (some 21) rfl rfl Try.func23 (by kernel_rfl) rfl #[.string t106] rfl (by (try simp only [List.map_toArray, List.map_cons, List.map_nil]); first | done | rfl | (simp only [List.length_drop, List.length_take]; rfl)) ?_; (with_reducible refine (journal_Scan.calls t106 t108 t109 t110 _ A3.out).mono ?_); rintro e w13 ⟨v111, rfl, ho0, hb⟩; refine ⟨_, rfl, ?_⟩; have n0_ := Aside0.mk (Kd.R_elder' (by (with_reducible repeat (first | apply Kd.R_alloc | apply Kd.R_drewN | apply Kd.R_drew)); exact HO105.out) (Kd.R_base ho0) hb); have n1_ := Aside0.mk (Kd.R_lower (Kd.R_new' ho0 (Kd.R_lt (by (with_reducible repeat (first | apply Kd.R_alloc | apply Kd.R_drewN | apply Kd.R_drew)); exact HO105.out))) (below_size (by repeat (first | (with_reducible first | exact HB.out | apply below_alloc | apply pw_below_drewN | apply below_drew1) | exact HB.out)))); have n2_ := Aside0.mk (below_step (by repeat (first | (with_reducible first | exact HB.out | apply below_alloc | apply pw_below_drewN | apply below_drew1) | exact HB.out)) hb); clear HO105; clear HB; have HO105 := n0_; have HO112 := n1_; have HB := n2_; clear n0_ n1_ n2_; (try clear hb); (try clear hb2); (try clear hk); (try clear hi); (try clear ho0); obtain ⟨Ao14, co14, eo14⟩ := Kd.R_slice HO105.out; subst eo14; obtain ⟨Ao15, co15, eo15⟩ := Kd.R_slice HO112.out; subst eo15))
                go_ret
                exact ⟨by first | rfl | (simp [errW_none, errW_some] <;> rfl) | (simp [*, errW_none, errW_some] <;> rfl), by repeat (first | (with_reducible first | exact HB.out | apply below_alloc | apply pw_below_drewN | apply below_drew1) | exact HB.out)⟩
              · rw [if_neg c10] at H
                have c10b0 : (t109 == 10) = false := beq_eq_false_iff_ne.mpr c10
                have c10b1 : (t109 != 10) = true := bne_iff_ne.mpr c10
                obtain rfl := Option.some.inj H
                go_enter Try.func26, Try.ntmps26
                go_wp2_with (first | ((with_reducible refine gate_callee (f := 23) rfl ?_); refine goesL_ (some 10) rfl rfl Try.func23 (by kernel_rfl) rfl #[.string (⟨#[0, 0, 0, 0, 0, 0, 0, 0, 0]⟩ : ByteArray)] rfl (by (try simp only [List.map_toArray, List.map_cons, List.map_nil]); first | done | rfl | (simp only [List.length_drop, List.length_take]; rfl)) ?_; (with_reducible refine (journal_Scan.calls (⟨#[0, 0, 0, 0, 0, 0, 0, 0, 0]⟩ : ByteArray) t101 t102 t103 _ A1.out).mono ?_); rintro e w16 ⟨v104, rfl, ho0, hb⟩; refine ⟨_, rfl, ?_⟩; have n0_ := Aside0.mk (Kd.R_lower ho0 (below_size (by repeat (first | (with_reducible first | exact HB.out | apply below_alloc | apply pw_below_drewN | apply below_drew1) | exact HB.out)))); have n1_ := Aside0.mk (below_step (by repeat (first | (with_reducible first | exact HB.out | apply below_alloc | apply pw_below_drewN | apply below_drew1) | exact HB.out)) hb); clear HB; have HO105 := n0_; have HB := n1_; clear n0_ n1_; (try clear hb); (try clear hb2); (try clear hk); (try clear hi); (try clear ho0)) | ((with_reducible refine gate_callee (f := 29) rfl ?_); refine goesL_ (some 16) rfl rfl Try.func29 (by kernel_rfl) rfl #[.agg #[.int .i64 2, .string (⟨#[116]⟩ : ByteArray)]] rfl (by (try simp only [List.map_toArray, List.map_cons, List.map_nil]); first | done | rfl | (simp only [List.length_drop, List.length_take]; rfl)) ?_; (with_reducible refine (journal_Encode.calls k 2 (⟨#[116]⟩ : ByteArray) t106 t107 _ A2.out).mono ?_); rintro e w17 ⟨rfl, hb⟩; refine ⟨_, rfl, ?_⟩; have n0_ := Aside0.mk (Kd.R_below (by (with_reducible repeat (first | apply Kd.R_alloc | apply Kd.R_drewN | apply Kd.R_drew)); exact HO105.out) hb); have n1_ := Aside0.mk (below_step (by repeat (first | (with_reducible first | exact HB.out | apply below_alloc | apply pw_below_drewN | apply below_drew1) | exact HB.out)) hb); clear HO105; clear HB; have HO105 := n0_; have HB := n1_; clear n0_ n1_; (try clear hb); (try clear hb2); (try clear hk); (try clear hi)) | ((with_reducible refine gate_callee (f := 23) rfl ?_); refine goesL_ (some 21) rfl rfl Try.func23 (by kernel_rfl) rfl #[.string t106] rfl (by (try simp only [List.map_toArray, List.map_cons, List.map_nil]); first | done | rfl | (simp only [List.length_drop, List.length_take]; rfl)) ?_; (with_reducible refine (journal_Scan.calls t106 t108 t109 t110 _ A3.out).mono ?_); rintro e w18 ⟨v111, rfl, ho0, hb⟩; refine ⟨_, rfl, ?_⟩; have n0_ := Aside0.mk (Kd.R_elder' (by (with_reducible repeat (first | apply Kd.R_alloc | apply Kd.R_drewN | apply Kd.R_drew)); exact HO105.out) (Kd.R_base ho0) hb); have n1_ := Aside0.mk (Kd.R_lower (Kd.R_new' ho0 (Kd.R_lt (by (with_reducible repeat (first | apply Kd.R_alloc | apply Kd.R_drewN | apply Kd.R_drew)); exact HO105.out))) (below_size (by repeat (first | (with_reducible first | exact HB.out | apply below_alloc | apply pw_below_drewN | apply below_drew1) | exact HB.out)))); have n2_ := Aside0.mk (below_step (by repeat (first | (with_reducible first | exact HB.out | apply below_alloc | apply pw_below_drewN | apply below_drew1) | exact HB.out)) hb); clear HO105; clear HB; have HO105 := n0_; have HO112 := n1_; have HB := n2_; clear n0_ n1_ n2_; (try clear hb); (try clear hb2); (try clear hk); (try clear hi); (try clear ho0); obtain ⟨Ao19, co19, eo19⟩ := Kd.R_slice HO105.out; subst eo19; obtain ⟨Ao20, co20, eo20⟩ := Kd.R_slice HO112.out; subst eo20))
                go_ret
                exact ⟨by first | rfl | (simp [errW_none, errW_some] <;> rfl) | (simp [*, errW_none, errW_some] <;> rfl), by repeat (first | (with_reducible first | exact HB.out | apply below_alloc | apply pw_below_drewN | apply below_drew1) | exact HB.out)⟩
            · rw [if_neg c9] at H
              have c9b0 : ((t108.length : Int) == 1) = false := beq_eq_false_iff_ne.mpr c9
              have c9b1 : ((t108.length : Int) != 1) = true := bne_iff_ne.mpr c9
              obtain rfl := Option.some.inj H
              go_enter Try.func26, Try.ntmps26
              go_wp2_with (first | ((with_reducible refine gate_callee (f := 23) rfl ?_); refine goesL_ (some 10) rfl rfl Try.func23 (by kernel_rfl) rfl #[.string (⟨#[0, 0, 0, 0, 0, 0, 0, 0, 0]⟩ : ByteArray)] rfl (by (try simp only [List.map_toArray, List.map_cons, List.map_nil]); first | done | rfl | (simp only [List.length_drop, List.length_take]; rfl)) ?_; (with_reducible refine (journal_Scan.calls (⟨#[0, 0, 0, 0, 0, 0, 0, 0, 0]⟩ : ByteArray) t101 t102 t103 _ A1.out).mono ?_); rintro e w21 ⟨v104, rfl, ho0, hb⟩; refine ⟨_, rfl, ?_⟩; have n0_ := Aside0.mk (Kd.R_lower ho0 (below_size (by repeat (first | (with_reducible first | exact HB.out | apply below_alloc | apply pw_below_drewN | apply below_drew1) | exact HB.out)))); have n1_ := Aside0.mk (below_step (by repeat (first | (with_reducible first | exact HB.out | apply below_alloc | apply pw_below_drewN | apply below_drew1) | exact HB.out)) hb); clear HB; have HO105 := n0_; have HB := n1_; clear n0_ n1_; (try clear hb); (try clear hb2); (try clear hk); (try clear hi); (try clear ho0)) | ((with_reducible refine gate_callee (f := 29) rfl ?_); refine goesL_ (some 16) rfl rfl Try.func29 (by kernel_rfl) rfl #[.agg #[.int .i64 2, .string (⟨#[116]⟩ : ByteArray)]] rfl (by (try simp only [List.map_toArray, List.map_cons, List.map_nil]); first | done | rfl | (simp only [List.length_drop, List.length_take]; rfl)) ?_; (with_reducible refine (journal_Encode.calls k 2 (⟨#[116]⟩ : ByteArray) t106 t107 _ A2.out).mono ?_); rintro e w22 ⟨rfl, hb⟩; refine ⟨_, rfl, ?_⟩; have n0_ := Aside0.mk (Kd.R_below (by (with_reducible repeat (first | apply Kd.R_alloc | apply Kd.R_drewN | apply Kd.R_drew)); exact HO105.out) hb); have n1_ := Aside0.mk (below_step (by repeat (first | (with_reducible first | exact HB.out | apply below_alloc | apply pw_below_drewN | apply below_drew1) | exact HB.out)) hb); clear HO105; clear HB; have HO105 := n0_; have HB := n1_; clear n0_ n1_; (try clear hb); (try clear hb2); (try clear hk); (try clear hi)) | ((with_reducible refine gate_callee (f := 23) rfl ?_); refine goesL_ (some 21) rfl rfl Try.func23 (by kernel_rfl) rfl #[.string t106] rfl (by (try simp only [List.map_toArray, List.map_cons, List.map_nil]); first | done | rfl | (simp only [List.length_drop, List.length_take]; rfl)) ?_; (with_reducible refine (journal_Scan.calls t106 t108 t109 t110 _ A3.out).mono ?_); rintro e w23 ⟨v111, rfl, ho0, hb⟩; refine ⟨_, rfl, ?_⟩; have n0_ := Aside0.mk (Kd.R_elder' (by (with_reducible repeat (first | apply Kd.R_alloc | apply Kd.R_drewN | apply Kd.R_drew)); exact HO105.out) (Kd.R_base ho0) hb); have n1_ := Aside0.mk (Kd.R_lower (Kd.R_new' ho0 (Kd.R_lt (by (with_reducible repeat (first | apply Kd.R_alloc | apply Kd.R_drewN | apply Kd.R_drew)); exact HO105.out))) (below_size (by repeat (first | (with_reducible first | exact HB.out | apply below_alloc | apply pw_below_drewN | apply below_drew1) | exact HB.out)))); have n2_ := Aside0.mk (below_step (by repeat (first | (with_reducible first | exact HB.out | apply below_alloc | apply pw_below_drewN | apply below_drew1) | exact HB.out)) hb); clear HO105; clear HB; have HO105 := n0_; have HO112 := n1_; have HB := n2_; clear n0_ n1_ n2_; (try clear hb); (try clear hb2); (try clear hk); (try clear hi); (try clear ho0); obtain ⟨Ao24, co24, eo24⟩ := Kd.R_slice HO105.out; subst eo24; obtain ⟨Ao25, co25, eo25⟩ := Kd.R_slice HO112.out; subst eo25))
              go_ret
              exact ⟨by first | rfl | (simp [errW_none, errW_some] <;> rfl) | (simp [*, errW_none, errW_some] <;> rfl), by repeat (first | (with_reducible first | exact HB.out | apply below_alloc | apply pw_below_drewN | apply below_drew1) | exact HB.out)⟩
          · rw [if_neg c8] at H
            have c8b0 : ((t106.size : Int) == 10) = false := beq_eq_false_iff_ne.mpr c8
            have c8b1 : ((t106.size : Int) != 10) = true := bne_iff_ne.mpr c8
            obtain rfl := Option.some.inj H
            go_enter Try.func26, Try.ntmps26
            go_wp2_with (first | ((with_reducible refine gate_callee (f := 23) rfl ?_); refine goesL_ (some 10) rfl rfl Try.func23 (by kernel_rfl) rfl #[.string (⟨#[0, 0, 0, 0, 0, 0, 0, 0, 0]⟩ : ByteArray)] rfl (by (try simp only [List.map_toArray, List.map_cons, List.map_nil]); first | done | rfl | (simp only [List.length_drop, List.length_take]; rfl)) ?_; (with_reducible refine (journal_Scan.calls (⟨#[0, 0, 0, 0, 0, 0, 0, 0, 0]⟩ : ByteArray) t101 t102 t103 _ A1.out).mono ?_); rintro e w26 ⟨v104, rfl, ho0, hb⟩; refine ⟨_, rfl, ?_⟩; have n0_ := Aside0.mk (Kd.R_lower ho0 (below_size (by repeat (first | (with_reducible first | exact HB.out | apply below_alloc | apply pw_below_drewN | apply below_drew1) | exact HB.out)))); have n1_ := Aside0.mk (below_step (by repeat (first | (with_reducible first | exact HB.out | apply below_alloc | apply pw_below_drewN | apply below_drew1) | exact HB.out)) hb); clear HB; have HO105 := n0_; have HB := n1_; clear n0_ n1_; (try clear hb); (try clear hb2); (try clear hk); (try clear hi); (try clear ho0)) | ((with_reducible refine gate_callee (f := 29) rfl ?_); refine goesL_ (some 16) rfl rfl Try.func29 (by kernel_rfl) rfl #[.agg #[.int .i64 2, .string (⟨#[116]⟩ : ByteArray)]] rfl (by (try simp only [List.map_toArray, List.map_cons, List.map_nil]); first | done | rfl | (simp only [List.length_drop, List.length_take]; rfl)) ?_; (with_reducible refine (journal_Encode.calls k 2 (⟨#[116]⟩ : ByteArray) t106 t107 _ A2.out).mono ?_); rintro e w27 ⟨rfl, hb⟩; refine ⟨_, rfl, ?_⟩; have n0_ := Aside0.mk (Kd.R_below (by (with_reducible repeat (first | apply Kd.R_alloc | apply Kd.R_drewN | apply Kd.R_drew)); exact HO105.out) hb); have n1_ := Aside0.mk (below_step (by repeat (first | (with_reducible first | exact HB.out | apply below_alloc | apply pw_below_drewN | apply below_drew1) | exact HB.out)) hb); clear HO105; clear HB; have HO105 := n0_; have HB := n1_; clear n0_ n1_; (try clear hb); (try clear hb2); (try clear hk); (try clear hi)) | ((with_reducible refine gate_callee (f := 23) rfl ?_); refine goesL_ (some 21) rfl rfl Try.func23 (by kernel_rfl) rfl #[.string t106] rfl (by (try simp only [List.map_toArray, List.map_cons, List.map_nil]); first | done | rfl | (simp only [List.length_drop, List.length_take]; rfl)) ?_; (with_reducible refine (journal_Scan.calls t106 t108 t109 t110 _ A3.out).mono ?_); rintro e w28 ⟨v111, rfl, ho0, hb⟩; refine ⟨_, rfl, ?_⟩; have n0_ := Aside0.mk (Kd.R_elder' (by (with_reducible repeat (first | apply Kd.R_alloc | apply Kd.R_drewN | apply Kd.R_drew)); exact HO105.out) (Kd.R_base ho0) hb); have n1_ := Aside0.mk (Kd.R_lower (Kd.R_new' ho0 (Kd.R_lt (by (with_reducible repeat (first | apply Kd.R_alloc | apply Kd.R_drewN | apply Kd.R_drew)); exact HO105.out))) (below_size (by repeat (first | (with_reducible first | exact HB.out | apply below_alloc | apply pw_below_drewN | apply below_drew1) | exact HB.out)))); have n2_ := Aside0.mk (below_step (by repeat (first | (with_reducible first | exact HB.out | apply below_alloc | apply pw_below_drewN | apply below_drew1) | exact HB.out)) hb); clear HO105; clear HB; have HO105 := n0_; have HO112 := n1_; have HB := n2_; clear n0_ n1_ n2_; (try clear hb); (try clear hb2); (try clear hk); (try clear hi); (try clear ho0); obtain ⟨Ao29, co29, eo29⟩ := Kd.R_slice HO105.out; subst eo29))
            go_ret
            exact ⟨by first | rfl | (simp [errW_none, errW_some] <;> rfl) | (simp [*, errW_none, errW_some] <;> rfl), by repeat (first | (with_reducible first | exact HB.out | apply below_alloc | apply pw_below_drewN | apply below_drew1) | exact HB.out)⟩
        · rw [if_neg c7] at H
          have c7b0 : (t107 == 0) = false := beq_eq_false_iff_ne.mpr c7
          have c7b1 : (t107 != 0) = true := bne_iff_ne.mpr c7
          obtain rfl := Option.some.inj H
          go_enter Try.func26, Try.ntmps26
          go_wp2_with (first | ((with_reducible refine gate_callee (f := 23) rfl ?_); refine goesL_ (some 10) rfl rfl Try.func23 (by kernel_rfl) rfl #[.string (⟨#[0, 0, 0, 0, 0, 0, 0, 0, 0]⟩ : ByteArray)] rfl (by (try simp only [List.map_toArray, List.map_cons, List.map_nil]); first | done | rfl | (simp only [List.length_drop, List.length_take]; rfl)) ?_; (with_reducible refine (journal_Scan.calls (⟨#[0, 0, 0, 0, 0, 0, 0, 0, 0]⟩ : ByteArray) t101 t102 t103 _ A1.out).mono ?_); rintro e w30 ⟨v104, rfl, ho0, hb⟩; refine ⟨_, rfl, ?_⟩; have n0_ := Aside0.mk (Kd.R_lower ho0 (below_size (by repeat (first | (with_reducible first | exact HB.out | apply below_alloc | apply pw_below_drewN | apply below_drew1) | exact HB.out)))); have n1_ := Aside0.mk (below_step (by repeat (first | (with_reducible first | exact HB.out | apply below_alloc | apply pw_below_drewN | apply below_drew1) | exact HB.out)) hb); clear HB; have HO105 := n0_; have HB := n1_; clear n0_ n1_; (try clear hb); (try clear hb2); (try clear hk); (try clear hi); (try clear ho0)) | ((with_reducible refine gate_callee (f := 29) rfl ?_); refine goesL_ (some 16) rfl rfl Try.func29 (by kernel_rfl) rfl #[.agg #[.int .i64 2, .string (⟨#[116]⟩ : ByteArray)]] rfl (by (try simp only [List.map_toArray, List.map_cons, List.map_nil]); first | done | rfl | (simp only [List.length_drop, List.length_take]; rfl)) ?_; (with_reducible refine (journal_Encode.calls k 2 (⟨#[116]⟩ : ByteArray) t106 t107 _ A2.out).mono ?_); rintro e w31 ⟨rfl, hb⟩; refine ⟨_, rfl, ?_⟩; have n0_ := Aside0.mk (Kd.R_below (by (with_reducible repeat (first | apply Kd.R_alloc | apply Kd.R_drewN | apply Kd.R_drew)); exact HO105.out) hb); have n1_ := Aside0.mk (below_step (by repeat (first | (with_reducible first | exact HB.out | apply below_alloc | apply pw_below_drewN | apply below_drew1) | exact HB.out)) hb); clear HO105; clear HB; have HO105 := n0_; have HB := n1_; clear n0_ n1_; (try clear hb); (try clear hb2); (try clear hk); (try clear hi)) | ((with_reducible refine gate_callee (f := 23) rfl ?_); refine goesL_ (some 21) rfl rfl Try.func23 (by kernel_rfl) rfl #[.string t106] rfl (by (try simp only [List.map_toArray, List.map_cons, List.map_nil]); first | done | rfl | (simp only [List.length_drop, List.length_take]; rfl)) ?_; (with_reducible refine (journal_Scan.calls t106 t108 t109 t110 _ A3.out).mono ?_); rintro e w32 ⟨v111, rfl, ho0, hb⟩; refine ⟨_, rfl, ?_⟩; have n0_ := Aside0.mk (Kd.R_elder' (by (with_reducible repeat (first | apply Kd.R_alloc | apply Kd.R_drewN | apply Kd.R_drew)); exact HO105.out) (Kd.R_base ho0) hb); have n1_ := Aside0.mk (Kd.R_lower (Kd.R_new' ho0 (Kd.R_lt (by (with_reducible repeat (first | apply Kd.R_alloc | apply Kd.R_drewN | apply Kd.R_drew)); exact HO105.out))) (below_size (by repeat (first | (with_reducible first | exact HB.out | apply below_alloc | apply pw_below_drewN | apply below_drew1) | exact HB.out)))); have n2_ := Aside0.mk (below_step (by repeat (first | (with_reducible first | exact HB.out | apply below_alloc | apply pw_below_drewN | apply below_drew1) | exact HB.out)) hb); clear HO105; clear HB; have HO105 := n0_; have HO112 := n1_; have HB := n2_; clear n0_ n1_ n2_; (try clear hb); (try clear hb2); (try clear hk); (try clear hi); (try clear ho0); obtain ⟨Ao33, co33, eo33⟩ := Kd.R_slice HO105.out; subst eo33))
          go_ret
          exact ⟨by first | rfl | (simp [errW_none, errW_some] <;> rfl) | (simp [*, errW_none, errW_some] <;> rfl), by repeat (first | (with_reducible first | exact HB.out | apply below_alloc | apply pw_below_drewN | apply below_drew1) | exact HB.out)⟩
      · rw [if_neg c6] at H
        have c6b0 : (t103 == 1) = false := beq_eq_false_iff_ne.mpr c6
        have c6b1 : (t103 != 1) = true := bne_iff_ne.mpr c6
        obtain rfl := Option.some.inj H
        go_enter Try.func26, Try.ntmps26
        go_wp2_with (first | ((with_reducible refine gate_callee (f := 23) rfl ?_); refine goesL_ (some 10) rfl rfl Try.func23 (by kernel_rfl) rfl #[.string (⟨#[0, 0, 0, 0, 0, 0, 0, 0, 0]⟩ : ByteArray)] rfl (by (try simp only [List.map_toArray, List.map_cons, List.map_nil]); first | done | rfl | (simp only [List.length_drop, List.length_take]; rfl)) ?_; (with_reducible refine (journal_Scan.calls (⟨#[0, 0, 0, 0, 0, 0, 0, 0, 0]⟩ : ByteArray) t101 t102 t103 _ A1.out).mono ?_); rintro e w34 ⟨v104, rfl, ho0, hb⟩; refine ⟨_, rfl, ?_⟩; have n0_ := Aside0.mk (Kd.R_lower ho0 (below_size (by repeat (first | (with_reducible first | exact HB.out | apply below_alloc | apply pw_below_drewN | apply below_drew1) | exact HB.out)))); have n1_ := Aside0.mk (below_step (by repeat (first | (with_reducible first | exact HB.out | apply below_alloc | apply pw_below_drewN | apply below_drew1) | exact HB.out)) hb); clear HB; have HO105 := n0_; have HB := n1_; clear n0_ n1_; (try clear hb); (try clear hb2); (try clear hk); (try clear hi); (try clear ho0)) | ((with_reducible refine gate_callee (f := 29) rfl ?_); refine goesL_ (some 16) rfl rfl Try.func29 (by kernel_rfl) rfl #[.agg #[.int .i64 2, .string (⟨#[116]⟩ : ByteArray)]] rfl (by (try simp only [List.map_toArray, List.map_cons, List.map_nil]); first | done | rfl | (simp only [List.length_drop, List.length_take]; rfl)) ?_; (with_reducible refine (journal_Encode.calls k 2 (⟨#[116]⟩ : ByteArray) t106 t107 _ A2.out).mono ?_); rintro e w35 ⟨rfl, hb⟩; refine ⟨_, rfl, ?_⟩; have n0_ := Aside0.mk (Kd.R_below (by (with_reducible repeat (first | apply Kd.R_alloc | apply Kd.R_drewN | apply Kd.R_drew)); exact HO105.out) hb); have n1_ := Aside0.mk (below_step (by repeat (first | (with_reducible first | exact HB.out | apply below_alloc | apply pw_below_drewN | apply below_drew1) | exact HB.out)) hb); clear HO105; clear HB; have HO105 := n0_; have HB := n1_; clear n0_ n1_; (try clear hb); (try clear hb2); (try clear hk); (try clear hi)) | ((with_reducible refine gate_callee (f := 23) rfl ?_); refine goesL_ (some 21) rfl rfl Try.func23 (by kernel_rfl) rfl #[.string t106] rfl (by (try simp only [List.map_toArray, List.map_cons, List.map_nil]); first | done | rfl | (simp only [List.length_drop, List.length_take]; rfl)) ?_; (with_reducible refine (journal_Scan.calls t106 t108 t109 t110 _ A3.out).mono ?_); rintro e w36 ⟨v111, rfl, ho0, hb⟩; refine ⟨_, rfl, ?_⟩; have n0_ := Aside0.mk (Kd.R_elder' (by (with_reducible repeat (first | apply Kd.R_alloc | apply Kd.R_drewN | apply Kd.R_drew)); exact HO105.out) (Kd.R_base ho0) hb); have n1_ := Aside0.mk (Kd.R_lower (Kd.R_new' ho0 (Kd.R_lt (by (with_reducible repeat (first | apply Kd.R_alloc | apply Kd.R_drewN | apply Kd.R_drew)); exact HO105.out))) (below_size (by repeat (first | (with_reducible first | exact HB.out | apply below_alloc | apply pw_below_drewN | apply below_drew1) | exact HB.out)))); have n2_ := Aside0.mk (below_step (by repeat (first | (with_reducible first | exact HB.out | apply below_alloc | apply pw_below_drewN | apply below_drew1) | exact HB.out)) hb); clear HO105; clear HB; have HO105 := n0_; have HO112 := n1_; have HB := n2_; clear n0_ n1_ n2_; (try clear hb); (try clear hb2); (try clear hk); (try clear hi); (try clear ho0); obtain ⟨Ao37, co37, eo37⟩ := Kd.R_slice HO105.out; subst eo37))
        go_ret
        exact ⟨by first | rfl | (simp [errW_none, errW_some] <;> rfl) | (simp [*, errW_none, errW_some] <;> rfl), by repeat (first | (with_reducible first | exact HB.out | apply below_alloc | apply pw_below_drewN | apply below_drew1) | exact HB.out)⟩
    · rw [if_neg c5] at H
      have c5b0 : (t102 == 0) = false := beq_eq_false_iff_ne.mpr c5
      have c5b1 : (t102 != 0) = true := bne_iff_ne.mpr c5
      obtain rfl := Option.some.inj H
      go_enter Try.func26, Try.ntmps26
      go_wp2_with (first | ((with_reducible refine gate_callee (f := 23) rfl ?_); refine goesL_ (some 10) rfl rfl Try.func23 (by kernel_rfl) rfl #[.string (⟨#[0, 0, 0, 0, 0, 0, 0, 0, 0]⟩ : ByteArray)] rfl (by (try simp only [List.map_toArray, List.map_cons, List.map_nil]); first | done | rfl | (simp only [List.length_drop, List.length_take]; rfl)) ?_; (with_reducible refine (journal_Scan.calls (⟨#[0, 0, 0, 0, 0, 0, 0, 0, 0]⟩ : ByteArray) t101 t102 t103 _ A1.out).mono ?_); rintro e w38 ⟨v104, rfl, ho0, hb⟩; refine ⟨_, rfl, ?_⟩; have n0_ := Aside0.mk (Kd.R_lower ho0 (below_size (by repeat (first | (with_reducible first | exact HB.out | apply below_alloc | apply pw_below_drewN | apply below_drew1) | exact HB.out)))); have n1_ := Aside0.mk (below_step (by repeat (first | (with_reducible first | exact HB.out | apply below_alloc | apply pw_below_drewN | apply below_drew1) | exact HB.out)) hb); clear HB; have HO105 := n0_; have HB := n1_; clear n0_ n1_; (try clear hb); (try clear hb2); (try clear hk); (try clear hi); (try clear ho0)) | ((with_reducible refine gate_callee (f := 29) rfl ?_); refine goesL_ (some 16) rfl rfl Try.func29 (by kernel_rfl) rfl #[.agg #[.int .i64 2, .string (⟨#[116]⟩ : ByteArray)]] rfl (by (try simp only [List.map_toArray, List.map_cons, List.map_nil]); first | done | rfl | (simp only [List.length_drop, List.length_take]; rfl)) ?_; (with_reducible refine (journal_Encode.calls k 2 (⟨#[116]⟩ : ByteArray) t106 t107 _ A2.out).mono ?_); rintro e w39 ⟨rfl, hb⟩; refine ⟨_, rfl, ?_⟩; have n0_ := Aside0.mk (Kd.R_below (by (with_reducible repeat (first | apply Kd.R_alloc | apply Kd.R_drewN | apply Kd.R_drew)); exact HO105.out) hb); have n1_ := Aside0.mk (below_step (by repeat (first | (with_reducible first | exact HB.out | apply below_alloc | apply pw_below_drewN | apply below_drew1) | exact HB.out)) hb); clear HO105; clear HB; have HO105 := n0_; have HB := n1_; clear n0_ n1_; (try clear hb); (try clear hb2); (try clear hk); (try clear hi)) | ((with_reducible refine gate_callee (f := 23) rfl ?_); refine goesL_ (some 21) rfl rfl Try.func23 (by kernel_rfl) rfl #[.string t106] rfl (by (try simp only [List.map_toArray, List.map_cons, List.map_nil]); first | done | rfl | (simp only [List.length_drop, List.length_take]; rfl)) ?_; (with_reducible refine (journal_Scan.calls t106 t108 t109 t110 _ A3.out).mono ?_); rintro e w40 ⟨v111, rfl, ho0, hb⟩; refine ⟨_, rfl, ?_⟩; have n0_ := Aside0.mk (Kd.R_elder' (by (with_reducible repeat (first | apply Kd.R_alloc | apply Kd.R_drewN | apply Kd.R_drew)); exact HO105.out) (Kd.R_base ho0) hb); have n1_ := Aside0.mk (Kd.R_lower (Kd.R_new' ho0 (Kd.R_lt (by (with_reducible repeat (first | apply Kd.R_alloc | apply Kd.R_drewN | apply Kd.R_drew)); exact HO105.out))) (below_size (by repeat (first | (with_reducible first | exact HB.out | apply below_alloc | apply pw_below_drewN | apply below_drew1) | exact HB.out)))); have n2_ := Aside0.mk (below_step (by repeat (first | (with_reducible first | exact HB.out | apply below_alloc | apply pw_below_drewN | apply below_drew1) | exact HB.out)) hb); clear HO105; clear HB; have HO105 := n0_; have HO112 := n1_; have HB := n2_; clear n0_ n1_ n2_; (try clear hb); (try clear hb2); (try clear hk); (try clear hi); (try clear ho0); obtain ⟨Ao41, co41, eo41⟩ := Kd.R_slice HO105.out; subst eo41))
      go_ret
      exact ⟨by first | rfl | (simp [errW_none, errW_some] <;> rfl) | (simp [*, errW_none, errW_some] <;> rfl), by repeat (first | (with_reducible first | exact HB.out | apply below_alloc | apply pw_below_drewN | apply below_drew1) | exact HB.out)⟩
  · rw [if_neg c4] at H
    have c4b0 : ((t101.length : Int) == 0) = false := beq_eq_false_iff_ne.mpr c4
    have c4b1 : ((t101.length : Int) != 0) = true := bne_iff_ne.mpr c4
    have c4b2 : ¬ (t101 = []) := fun h_ => c4 (by rw [h_]; rfl)
    obtain rfl := Option.some.inj H
    go_enter Try.func26, Try.ntmps26
    go_wp2_with (first | ((with_reducible refine gate_callee (f := 23) rfl ?_); refine goesL_ (some 10) rfl rfl Try.func23 (by kernel_rfl) rfl #[.string (⟨#[0, 0, 0, 0, 0, 0, 0, 0, 0]⟩ : ByteArray)] rfl (by (try simp only [List.map_toArray, List.map_cons, List.map_nil]); first | done | rfl | (simp only [List.length_drop, List.length_take]; rfl)) ?_; (with_reducible refine (journal_Scan.calls (⟨#[0, 0, 0, 0, 0, 0, 0, 0, 0]⟩ : ByteArray) t101 t102 t103 _ A1.out).mono ?_); rintro e w42 ⟨v104, rfl, ho0, hb⟩; refine ⟨_, rfl, ?_⟩; have n0_ := Aside0.mk (Kd.R_lower ho0 (below_size (by repeat (first | (with_reducible first | exact HB.out | apply below_alloc | apply pw_below_drewN | apply below_drew1) | exact HB.out)))); have n1_ := Aside0.mk (below_step (by repeat (first | (with_reducible first | exact HB.out | apply below_alloc | apply pw_below_drewN | apply below_drew1) | exact HB.out)) hb); clear HB; have HO105 := n0_; have HB := n1_; clear n0_ n1_; (try clear hb); (try clear hb2); (try clear hk); (try clear hi); (try clear ho0)) | ((with_reducible refine gate_callee (f := 29) rfl ?_); refine goesL_ (some 16) rfl rfl Try.func29 (by kernel_rfl) rfl #[.agg #[.int .i64 2, .string (⟨#[116]⟩ : ByteArray)]] rfl (by (try simp only [List.map_toArray, List.map_cons, List.map_nil]); first | done | rfl | (simp only [List.length_drop, List.length_take]; rfl)) ?_; (with_reducible refine (journal_Encode.calls k 2 (⟨#[116]⟩ : ByteArray) t106 t107 _ A2.out).mono ?_); rintro e w43 ⟨rfl, hb⟩; refine ⟨_, rfl, ?_⟩; have n0_ := Aside0.mk (Kd.R_below (by (with_reducible repeat (first | apply Kd.R_alloc | apply Kd.R_drewN | apply Kd.R_drew)); exact HO105.out) hb); have n1_ := Aside0.mk (below_step (by repeat (first | (with_reducible first | exact HB.out | apply below_alloc | apply pw_below_drewN | apply below_drew1) | exact HB.out)) hb); clear HO105; clear HB; have HO105 := n0_; have HB := n1_; clear n0_ n1_; (try clear hb); (try clear hb2); (try clear hk); (try clear hi)) | ((with_reducible refine gate_callee (f := 23) rfl ?_); refine goesL_ (some 21) rfl rfl Try.func23 (by kernel_rfl) rfl #[.string t106] rfl (by (try simp only [List.map_toArray, List.map_cons, List.map_nil]); first | done | rfl | (simp only [List.length_drop, List.length_take]; rfl)) ?_; (with_reducible refine (journal_Scan.calls t106 t108 t109 t110 _ A3.out).mono ?_); rintro e w44 ⟨v111, rfl, ho0, hb⟩; refine ⟨_, rfl, ?_⟩; have n0_ := Aside0.mk (Kd.R_elder' (by (with_reducible repeat (first | apply Kd.R_alloc | apply Kd.R_drewN | apply Kd.R_drew)); exact HO105.out) (Kd.R_base ho0) hb); have n1_ := Aside0.mk (Kd.R_lower (Kd.R_new' ho0 (Kd.R_lt (by (with_reducible repeat (first | apply Kd.R_alloc | apply Kd.R_drewN | apply Kd.R_drew)); exact HO105.out))) (below_size (by repeat (first | (with_reducible first | exact HB.out | apply below_alloc | apply pw_below_drewN | apply below_drew1) | exact HB.out)))); have n2_ := Aside0.mk (below_step (by repeat (first | (with_reducible first | exact HB.out | apply below_alloc | apply pw_below_drewN | apply below_drew1) | exact HB.out)) hb); clear HO105; clear HB; have HO105 := n0_; have HO112 := n1_; have HB := n2_; clear n0_ n1_ n2_; (try clear hb); (try clear hb2); (try clear hk); (try clear hi); (try clear ho0); obtain ⟨Ao45, co45, eo45⟩ := Kd.R_slice HO105.out; subst eo45))
    go_ret
    exact ⟨by first | rfl | (simp [errW_none, errW_some] <;> rfl) | (simp [*, errW_none, errW_some] <;> rfl), by repeat (first | (with_reducible first | exact HB.out | apply below_alloc | apply pw_below_drewN | apply below_drew1) | exact HB.out)⟩

end Go.Proofs.Ytnaddmkaakdhoaa.J

end
