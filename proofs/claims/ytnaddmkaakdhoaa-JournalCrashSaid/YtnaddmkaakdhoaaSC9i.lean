/-
  Texts of this claim, joined, without what the claim does not use: XDs XDx XDy XPd XDA
-/
import Derived.StillTailTactics
import Derived.Test.YtnaddmkaakdhoaaSC9h
section
namespace Go.Proofs.Ytnaddmkaakdhoaa.Dk
open J
def num (l : List S69) (j : Nat) : Nat := (List.range j).countP (fun i => marked l i)
def keptTo (l : List S69) (ino : List S67) (i : Nat) : List S67 := (List.range i).filterMap (fun k => if marked l k = true then some (ino.getD k z67) else none)
def ren (l : List S69) (x : S69) : S69 := ⟨x.f0, (num l x.f1.toNat : Nat)⟩
def settle (d : Dsk) : Dsk := ⟨keptTo d.dir d.ino d.ino.length, d.dir.map (ren d.dir), d.dir.map (ren d.dir), []⟩
theorem num_succ (l : List S69) (j : Nat) : num l (j + 1) = num l j + (if marked l j = true then 1 else 0) := by
  unfold num
  rw [List.range_succ, List.countP_append, List.countP_cons, List.countP_nil, Nat.zero_add]
theorem num_le (l : List S69) (j : Nat) : num l j ≤ j := by
  have := List.countP_le_length (p := fun i => marked l i) (l := List.range j)
  rwa [List.length_range] at this
theorem keptTo_succ (l : List S69) (ino : List S67) (i : Nat) : keptTo l ino (i + 1) = keptTo l ino i ++ (if marked l i = true then [ino.getD i z67] else []) := by
  unfold keptTo
  rw [List.range_succ, List.filterMap_append]
  congr 1
  by_cases h : marked l i = true <;> simp [h]
theorem keptTo_length (l : List S69) (ino : List S67) : ∀ i, (keptTo l ino i).length = num l i
  | 0 => rfl
  | i + 1 => by
    rw [keptTo_succ, num_succ, List.length_append, keptTo_length l ino i]
    split <;> rfl
def atTo (l : List S69) (i : Nat) (j : Nat) : Int := if marked l j = true then (if j < i then (num l j : Nat) else 1) else 0
theorem atTo_set (l : List S69) (i : Nat) (h : marked l i = true) (j : Nat) : (if j = i then ((num l i : Nat) : Int) else atTo l i j) = atTo l (i + 1) j := by
  unfold atTo
  by_cases e : j = i
  · subst e; simp [h]
  · rw [if_neg e]
    split
    · by_cases k : j < i
      · rw [if_pos k, if_pos (by omega)]
      · rw [if_neg k, if_neg (by omega)]
    · rfl
theorem atTo_skip (l : List S69) (i : Nat) (h : marked l i = false) (j : Nat) : atTo l i j = atTo l (i + 1) j := by
  unfold atTo
  split
  · rename_i hm
    by_cases k : j < i
    · rw [if_pos k, if_pos (by omega)]
    · rw [if_neg k, if_neg (fun h2 => by rw [show j = i by omega, h] at hm; cases hm)]
  · rfl
theorem marked_take (l : List S69) (i : Nat) (h : i < l.length) (j : Nat) : marked (l.take (i + 1)) j = (marked (l.take i) j || decide (l[i].f1 = (j : Int))) := by
  rw [List.take_succ_eq_append_getElem h, marked_snoc]
theorem marked_mem {l : List S69} {x : S69} (h : x ∈ l) {j : Nat} (e : x.f1 = (j : Int)) : marked l j = true := by
  unfold marked
  exact List.any_eq_true.2 ⟨x, h, decide_eq_true e⟩
end Go.Proofs.Ytnaddmkaakdhoaa.Dk
namespace Go.Proofs.Ytnaddmkaakdhoaa.J
open Go.RowKit Go.Proofs.YtnaddmkaakdhoaaW.PrintWords Go.Proofs.YtnaddmkaakdhoaaW.PrintLast Go.Proofs.YtnaddmkaakdhoaaW.PrintMore
open Dk (Srt marked num keptTo ren atTo)
set_option linter.unusedVariables false
set_option linter.unusedSimpArgs false
def KeepT (ts : List Nat) (w w' : World) : Prop := ∀ (k : Nat) (cs : Array Value) (t : Nat), w.heap[k]? = some (Obj.cells cs t (0, 0)) → t ∉ ts → w'.heap[k]? = some (Obj.cells cs t (0, 0))
theorem KeepT.of_below {ts : List Nat} {w w' : World} (hb : Below w.heap.size w w') : KeepT ts w w' := fun k _ _ h _ => (hb.block k (blk_lt h)).trans h
theorem KeepT.trans {ts : List Nat} {w W W' : World} (h : KeepT ts w W) (k : KeepT ts W W') : KeepT ts w W' := fun b cs t hb ht => k b cs t (h b cs t hb ht) ht
theorem KeepT.below {ts : List Nat} {w W W' : World} (h : KeepT ts w W) (hb : Below W.heap.size W W') : KeepT ts w W' := h.trans (KeepT.of_below hb)
theorem KeepT.set {ts : List Nat} {w W : World} (h : KeepT ts w W) {g t : Nat} {cs : Array Value} (hg : W.heap[g]? = some (.cells cs t (0, 0))) (ht : t ∈ ts) (j : Nat) (u : Value) : KeepT ts w (W.setCell ⟨g, j, none⟩ u) := fun b cs' t' hb ht' =>
  blk_far (h b cs' t' hb ht') (p := ⟨g, j, none⟩) (blk_ne (h b cs' t' hb ht') hg (fun e => ht' (e ▸ ht))) u
theorem KeepT.set_new {ts : List Nat} {w W : World} (h : KeepT ts w W) {g : Nat} (hg : w.heap.size ≤ g) (j : Nat) (u : Value) : KeepT ts w (W.setCell ⟨g, j, none⟩ u) := fun b cs' t' hb ht' =>
  blk_far (h b cs' t' hb ht') (p := ⟨g, j, none⟩) (fun e => by have := blk_lt hb; have e2 : b = g := e; omega) u
theorem KeepT.mono {ts ts' : List Nat} {w W : World} (h : KeepT ts w W) (hs : ∀ t, t ∈ ts → t ∈ ts') : KeepT ts' w W := fun b cs t hb ht => h b cs t hb (fun k => ht (hs t k))
theorem KeepT.drew {ts : List Nat} {w W : World} (h : KeepT ts w W) : KeepT ts w W.drew := h
def ncells (n : Nat) (f : Nat → Int) : Array Value := Array.ofFn (n := n) fun j => .int .i64 (f j)
def Nums (w : World) (g : Nat) (n : Nat) (f : Nat → Int) : Prop := w.heap[g]? = some (.cells (ncells n f) 3 (0, 0))
theorem ncells_at (n : Nat) (f : Nat → Int) (j : Nat) (h : j < n) : (ncells n f)[j]? = some (.int .i64 (f j)) := by
  unfold ncells
  rw [Array.getElem?_ofFn]
  simp [h]
theorem Nums.cell {w : World} {g n : Nat} {f : Nat → Int} (h : Nums w g n f) {j : Nat} (hj : j < n) : w.cell? ⟨g, j, none⟩ = some (.int .i64 (f j)) := (blk_cell h j).trans (ncells_at n f j hj)
theorem ncells_set (n : Nat) (f : Nat → Int) (j : Nat) (x : Int) (hj : j < n) : (ncells n f).setIfInBounds j (.int .i64 x) = ncells n (fun k => if k = j then x else f k) := by
  apply Array.ext
  · simp [ncells]
  · intro i h1 h2
    have hi : i < n := by simpa [ncells] using h2
    apply Option.some.inj
    rw [← Array.getElem?_eq_getElem, ← Array.getElem?_eq_getElem, Array.getElem?_setIfInBounds, ncells_at _ _ i hi, ncells_at _ _ i hi]
    by_cases e : j = i
    · subst e; simp [ncells, hj]
    · simp [e, Ne.symm e]
theorem Nums.set {w : World} {g n : Nat} {f f' : Nat → Int} (h : Nums w g n f) {j : Nat} (hj : j < n) (x : Int) (hf : ∀ k, (if k = j then x else f k) = f' k) : Nums (w.setCell ⟨g, j, none⟩ (.int .i64 x)) g n f' :=
  blk_put h j _ ((ncells_set n f j x hj).trans (congrArg (ncells n) (funext hf)))
theorem made_nums (n : Nat) : madeCells #[Value.int .i64 0] n = ncells n (fun _ => 0) := by
  apply Array.ext
  · simp [madeCells, ncells]
  · intro i h1 h2
    simp [madeCells, ncells, Nat.mod_one]
theorem make_nums (n : Nat) (hn : n ≤ 1000000) (W : World) : (Instr.makeSlice 22 (.int .i64 (n : Nat)) (.int .i64 (n : Nat))).run Try.prog W = .ok (.slice (some ⟨W.heap.size, 0, none⟩) n n) (W.alloc (.cells (ncells n (fun _ => 0)) 3)) := by
  rw [← made_nums]
  exact print_make_of (P := Try.prog) 22 3 (.int .i64 0) 8 Try.underlying22 info3 rfl (by omega) n (by omega) W
theorem C67_one {w : World} {vb : Nat} {x : S67} (h : w.heap[vb]? = some (.cells #[.string x.f0, .int .i64 x.f1] 67 (0, 0))) : Kd.C k67 w (some ⟨vb, 0, none⟩) 1 [x] :=
  ⟨rfl, by omega, fun _ => ⟨_, rfl, fun j p hj => by
    obtain rfl : j = 0 := by have := (List.getElem?_eq_some_iff.1 hj).1; simp at this; exact this
    obtain rfl : x = p := by simpa using hj
    refine ⟨_, rfl, k67_mk w x, fun i u hu => ?_⟩
    rw [Addr.add_lit, blk_cell h]
    match i, hu with
    | 0, hu => simpa using hu
    | 1, hu => simpa using hu
    | k + 2, hu => simp at hu⟩⟩
theorem cs69_set : ∀ (l : List S69) (i : Nat) (m : Int) (h : i < l.length), (cs69 l).set (i * 2 + 1) (.int .i64 m) = cs69 (l.set i ⟨l[i].f0, m⟩)
  | x :: l, 0, m, _ => rfl
  | x :: l, i + 1, m, h => by
    have := cs69_set l i m (by simpa using h)
    rw [List.set_cons_succ, cs69, cs69, show (i + 1) * 2 + 1 = i * 2 + 1 + 1 + 1 by omega]
    simpa using this
theorem R69_set {w : World} {T : Nat} {P : Nat → Prop} {g c n : Nat} {l : List S69} (h : Kd.R k69 69 w T P (.slice (some ⟨g, 0, none⟩) n c) l) (hn : l.length = n) (i : Nat) (hi : i < l.length) (m : Int) : Kd.R k69 69 (w.setCell ⟨g, i * 2 + 1, none⟩ (.int .i64 m)) T P (.slice (some ⟨g, 0, none⟩) n c) (l.set i ⟨l[i].f0, m⟩) := by
  subst hn
  have ho := R69_own h
  refine R69_of (n := l.length) ?_ (by simp) h.1
  refine ⟨by rw [cs69_len, List.length_set], ?_⟩
  rcases ho.2 with ⟨e, _⟩ | ⟨g', cap, cur, e, hg, hh, hnc, hcm, hcs, htk⟩
  · injection e with e; cases e
  · injection e with e1 _ e2
    injection e1 with e1
    injection e1 with e1
    subst e1
    subst e2
    refine .inr ⟨g, c, _, rfl, hg, blk_set hh _ _, hnc, hcm, by rw [Array.size_setIfInBounds]; exact hcs, ?_⟩
    rw [Array.toList_setIfInBounds, List.take_set, htk]
    exact cs69_set l i m hi
theorem R69_cells {w : World} {T : Nat} {P : Nat → Prop} {g c n : Nat} {l : List S69} (h : Kd.R k69 69 w T P (.slice (some ⟨g, 0, none⟩) n c) l) (i : Nat) (hi : i < l.length) : w.cell? ⟨g, i * 2, none⟩ = some (.string l[i].f0) ∧ w.cell? ⟨g, i * 2 + 1, none⟩ = some (.int .i64 l[i].f1) := by
  obtain ⟨A, c', e, _, hr⟩ := Kd.R_reads h
  injection e with e1 _ _
  subst e1
  obtain ⟨ad, ea, h0, h1⟩ := at_T69 hr (i : Int) (by omega) (by omega)
  injection ea with ea
  subst ea
  rw [show rd_T69 l (i : Int) = l[i] from Dk.getD_eq hi] at h0 h1
  rw [Int.toNat_natCast, Addr.add_lit, Nat.zero_add] at h0 h1
  exact ⟨h0, h1⟩
theorem R69_block {w : World} {T : Nat} {P : Nat → Prop} {A : Option Addr} {n c : Nat} {l : List S69} (h : Kd.R k69 69 w T P (.slice A n c) l) (h0 : 0 < l.length) : ∃ g cur, A = some ⟨g, 0, none⟩ ∧ w.heap[g]? = some (.cells cur 69 (0, 0)) := by
  rcases (R69_own h).2 with ⟨_, e⟩ | ⟨g', cap, cur, e, hg, hh, _⟩
  · rw [e] at h0; exact absurd h0 (Nat.lt_irrefl _)
  · injection e with e _ _
    exact ⟨g', cur, e, hh⟩
set_option maxHeartbeats 8000000 in
set_option maxRecDepth 100000 in
theorem settle_calls (T : Nat) (a : Value) (d : Dsk) (w : World) (h : DR w T a d) (hT : T ≤ w.heap.size) (hs : Sml 200000 d) (hin : ∀ x ∈ d.dir, 0 ≤ x.f1 ∧ x.f1 < d.ino.length) :
    Calls Try.prog 74 #[a] w fun e w' => ∃ v, e = .returned v ∧ DR w' T v (Dk.settle d) ∧ Below T w w' ∧ KeepT [69] w w' := by
  obtain ⟨v0, v1, v2, v3, rfl, r0, r1, r2, r3⟩ := h
  obtain ⟨n0, n1, n2, n3⟩ := hs
  obtain ⟨A0, c0, rfl, l0, q0⟩ := Kd.R_reads r0
  obtain ⟨A1, c1, rfl, l1, q1⟩ := Kd.R_reads r1
  obtain ⟨A2, c2, rfl, l2, q2⟩ := Kd.R_reads r2
  obtain ⟨A3, c3, rfl, l3, q3⟩ := Kd.R_reads r3
  have C0 := Aside0.mk q0
  have C1 := Aside0.mk q1
  have R1 := Aside0.mk r1
  have HI := Aside0.mk hin
  clear r0 r1 r2 r3 q0 q1 q2 q3 hin
  obtain ⟨n, hn⟩ : ∃ n, n = d.ino.length := ⟨_, rfl⟩
  have HN := Aside0.mk hn
  obtain ⟨m, hm⟩ : ∃ m, m = d.dir.length := ⟨_, rfl⟩
  have HM := Aside0.mk hm
  rw [← hn] at l0 n0 ⊢
  rw [← hm] at l1 n1 ⊢
  have hmk := make_nums n (by omega)
  clear hn hm
  go_enter Try.func74, Try.ntmps74
  go_wp2_with fail
  have hB := (((Below.refl w.heap.size w).alloc (Nat.le_refl _) (.cells #[.slice A0 n c0, .slice A1 m c1, .slice A2 d.dur.length c2, .slice A3 d.ops.length c3] 47)).alloc (by simp) (.cells #[.slice none 0 0, .slice none 0 0, .slice none 0 0, .slice none 0 0] 47)).alloc (by simp; omega) (.cells (ncells n (fun _ => 0)) 3)
  have hK := blk_alloc (blk_alloc (blk_new w (.cells #[.slice A0 n c0, .slice A1 m c1, .slice A2 d.dur.length c2, .slice A3 d.ops.length c3] 47)) (.cells #[.slice none 0 0, .slice none 0 0, .slice none 0 0, .slice none 0 0] 47)) (.cells (ncells n (fun _ => 0)) 3)
  have hR := blk_alloc (blk_new (w.alloc (.cells #[.slice A0 n c0, .slice A1 m c1, .slice A2 d.dur.length c2, .slice A3 d.ops.length c3] 47)) (.cells #[.slice none 0 0, .slice none 0 0, .slice none 0 0, .slice none 0 0] 47)) (.cells (ncells n (fun _ => 0)) 3)
  have hG := blk_new ((w.alloc (.cells #[.slice A0 n c0, .slice A1 m c1, .slice A2 d.dur.length c2, .slice A3 d.ops.length c3] 47)).alloc (.cells #[.slice none 0 0, .slice none 0 0, .slice none 0 0, .slice none 0 0] 47)) (.cells (ncells n (fun _ => 0)) 3)
  rw [show (w.alloc (.cells #[.slice A0 n c0, .slice A1 m c1, .slice A2 d.dur.length c2, .slice A3 d.ops.length c3] 47)).heap.size = w.heap.size + 1 by simp] at hR
  rw [show ((w.alloc (.cells #[.slice A0 n c0, .slice A1 m c1, .slice A2 d.dur.length c2, .slice A3 d.ops.length c3] 47)).alloc (.cells #[.slice none 0 0, .slice none 0 0, .slice none 0 0, .slice none 0 0] 47)).heap.size = w.heap.size + 1 + 1 by simp] at hG
  generalize ((w.alloc (.cells #[.slice A0 n c0, .slice A1 m c1, .slice A2 d.dur.length c2, .slice A3 d.ops.length c3] 47)).alloc (.cells #[.slice none 0 0, .slice none 0 0, .slice none 0 0, .slice none 0 0] 47)).alloc (.cells (ncells n (fun _ => 0)) 3) = W0 at hB hK hR hG ⊢
  obtain ⟨D, hD⟩ : ∃ D, D = w.heap.size := ⟨_, rfl⟩
  obtain ⟨S, hS⟩ : ∃ S, S = w.heap.size + 1 := ⟨_, rfl⟩
  obtain ⟨G, hGG⟩ : ∃ G, G = w.heap.size + 1 + 1 := ⟨_, rfl⟩
  have ED := Aside0.mk hD
  have ES := Aside0.mk hS
  have EG := Aside0.mk hGG
  rw [← hGG] at hG ⊢
  rw [← hS] at hR ⊢
  rw [← hD] at hK ⊢
  clear hD hS hGG
  have HB := Aside0.mk hB
  have HK := Aside0.mk hK
  have HR := Aside0.mk hR
  have HG : Aside0 (Nums W0 G n (fun _ => 0)) := ⟨hG⟩
  clear hB hK hR hG
  go_loopg [17] m (fun kx s17 wr => ∃ i : Nat, s17 = .int .i64 i ∧ i ≤ m ∧ m - i ≤ kx ∧ Aside0 (Below w.heap.size w wr) ∧ Aside0 (wr.heap[D]? = some (.cells #[.slice A0 n c0, .slice A1 m c1, .slice A2 d.dur.length c2, .slice A3 d.ops.length c3] 47 (0, 0))) ∧ Aside0 (wr.heap[S]? = some (.cells #[.slice none 0 0, .slice none 0 0, .slice none 0 0, .slice none 0 0] 47 (0, 0))) ∧ Aside0 (Nums wr G n (fun j => if marked (d.dir.take i) j = true then 1 else 0)))
  case atStart => exact ⟨0, rfl, Nat.zero_le _, by omega, HB, HK, HR, ⟨by simpa [marked] using HG.out⟩⟩
  case round =>
    clear HB HK HR HG
    obtain ⟨i, rfl, hi, hk, HB, HK, HR, HG⟩ := hrel
    by_cases hlt : i < m
    · obtain ⟨ad, ea, hx0, hx1⟩ := at_T69 C1.out (i : Int) (by omega) (by have := HM.out; omega)
      cases ea
      obtain ⟨y, hy⟩ : ∃ y, y = rd_T69 d.dir (i : Int) := ⟨_, rfl⟩
      rw [← hy] at hx0 hx1
      replace hx0 : wr.cell? (ad.add (i * 2)) = some (.string y.f0) := (HB.out.cell (World.block_lt_of_cell? w _ hx0)).trans hx0
      replace hx1 : wr.cell? ⟨(ad.add (i * 2)).block, (ad.add (i * 2)).off + 1, none⟩ = some (.int .i64 y.f1) := (HB.out.cell (World.block_lt_of_cell? w _ hx1)).trans hx1
      have hil : i < d.dir.length := by have := HM.out; omega
      have hyi : d.dir[i] = y := by
        rw [hy]
        show _ = d.dir.getD i z69
        rw [Dk.getD_eq hil]
      obtain ⟨hy0, hy1⟩ := HI.out y (hyi ▸ List.getElem_mem hil)
      obtain ⟨j, hj⟩ : ∃ j : Nat, y.f1 = (j : Int) := ⟨y.f1.toNat, (Int.toNat_of_nonneg hy0).symm⟩
      have hjn : j < n := by have := HN.out; omega
      have MT := Aside0.mk (fun k => Dk.marked_take d.dir i hil k)
      rw [hyi, hj] at MT
      rw [hj] at hx1
      clear hy hyi hy0 hy1 hj hil
      have kB := below_alloc HB.out (.cells #[.string y.f0, .int .i64 (j : Nat)] 69)
      have kK := blk_alloc HK.out (.cells #[.string y.f0, .int .i64 (j : Nat)] 69)
      have kR := blk_alloc HR.out (.cells #[.string y.f0, .int .i64 (j : Nat)] 69)
      have kG : Nums (wr.alloc (.cells #[.string y.f0, .int .i64 (j : Nat)] 69)) G n _ := blk_alloc HG.out (.cells #[.string y.f0, .int .i64 (j : Nat)] 69)
      have y1 : (wr.alloc (.cells #[.string y.f0, .int .i64 (j : Nat)] 69)).cell? ⟨wr.heap.size, 1, none⟩ = some (.int .i64 (j : Nat)) := (blk_cell (blk_new wr (.cells #[.string y.f0, .int .i64 (j : Nat)] 69)) 1).trans rfl
      have zg := kG.cell hjn
      have fg := blk_frozen kG j
      have KB := Aside0.mk kB
      have KK := Aside0.mk kK
      have KR := Aside0.mk kR
      have KG : Aside0 (Nums _ G n _) := Aside0.mk kG
      have hjj : (j : Int) < (n : Int) := by omega
      have hj0 : (0 : Int) ≤ (j : Int) := by omega
      clear kB kK kR kG HB HK HR HG
      have hDG : D ≠ G := by have := ED.out; have := EG.out; omega
      have hSG : S ≠ G := by have := ES.out; have := EG.out; omega
      have hGw : w.heap.size ≤ G := by have := EG.out; omega
      go_wp2
      go_roundg (m - i - 1)
      case measure => omega
      case rel => exact ⟨i + 1, by first | rfl | (simp; done), hlt, by omega, ⟨KB.out.setCell hGw _⟩, ⟨blk_far KK.out hDG _⟩, ⟨blk_far KR.out hSG _⟩, ⟨KG.out.set hjn 1 (fun k => by
        rw [MT.out]
        by_cases e : k = j
        · subst e; simp
        · rw [if_neg e]
          have e2 : ¬ ((j : Int) = (k : Int)) := by omega
          simp [e2])⟩⟩
    · have G1 : Aside0 (Nums wr G n (atTo d.dir 0)) := ⟨by
        have := HG.out
        rw [List.take_of_length_le (by have := HM.out; omega)] at this
        have e : (fun j => if marked d.dir j = true then (1 : Int) else 0) = atTo d.dir 0 := funext fun j => by simp [Dk.atTo]
        rwa [e] at this⟩
      have z0 : wr.cell? ⟨D, 0, none⟩ = some (.slice A0 n c0) := (blk_cell HK.out 0).trans rfl
      clear HG
      go_wp2_with fail
      go_loopg [29, 6] n (fun kx s29 s6 wq => ∃ (i : Nat) (v : Value), s29 = .int .i64 i ∧ v = s6 ∧ i ≤ n ∧ n - i ≤ kx ∧ Aside0 (Below w.heap.size w wq) ∧ Aside0 (wq.heap[D]? = some (.cells #[.slice A0 n c0, .slice A1 m c1, .slice A2 d.dur.length c2, .slice A3 d.ops.length c3] 47 (0, 0))) ∧ Aside0 (wq.heap[S]? = some (.cells #[.slice none 0 0, .slice none 0 0, .slice none 0 0, .slice none 0 0] 47 (0, 0))) ∧ Aside0 (Nums wq G n (atTo d.dir i)) ∧ Aside0 (Kd.R k67 67 wq w.heap.size (fun _ => True) v (keptTo d.dir d.ino i)))
      case atStart => exact ⟨0, _, rfl, rfl, Nat.zero_le _, by omega, HB, HK, HR, G1, ⟨Kd.R_nil _ _ _ _ _⟩⟩
      case round =>
        clear HB HK HR G1 z0
        obtain ⟨i2, vk, rfl, rfl, hi2, hk2, HB, HK, HR, HG, HO⟩ := hrel
        by_cases hlt2 : i2 < n
        · obtain ⟨ad, ea, hx0, hx1⟩ := at_T67 C0.out (i2 : Int) (by omega) (by have := HN.out; omega)
          cases ea
          obtain ⟨y, hy⟩ : ∃ y, y = rd_T67 d.ino (i2 : Int) := ⟨_, rfl⟩
          rw [← hy] at hx0 hx1
          replace hx0 : wr.cell? (ad.add (i2 * 2)) = some (.string y.f0) := (HB.out.cell (World.block_lt_of_cell? w _ hx0)).trans hx0
          replace hx1 : wr.cell? ⟨(ad.add (i2 * 2)).block, (ad.add (i2 * 2)).off + 1, none⟩ = some (.int .i64 y.f1) := (HB.out.cell (World.block_lt_of_cell? w _ hx1)).trans hx1
          have Y := Aside0.mk (show d.ino.getD i2 z67 = y from by rw [hy]; rfl)
          clear hy
          have kB := below_alloc HB.out (.cells #[.string y.f0, .int .i64 y.f1] 67)
          have kK := blk_alloc HK.out (.cells #[.string y.f0, .int .i64 y.f1] 67)
          have kR := blk_alloc HR.out (.cells #[.string y.f0, .int .i64 y.f1] 67)
          have kG : Nums (wr.alloc (.cells #[.string y.f0, .int .i64 y.f1] 67)) G n _ := blk_alloc HG.out (.cells #[.string y.f0, .int .i64 y.f1] 67)
          have kX := blk_new wr (.cells #[.string y.f0, .int .i64 y.f1] 67)
          have kO := Kd.R_below HO.out ((Below.refl wr.heap.size wr).alloc (Nat.le_refl _) (.cells #[.string y.f0, .int .i64 y.f1] 67))
          obtain ⟨X, hX⟩ : ∃ X, X = wr.heap.size := ⟨_, rfl⟩
          have y0 : (wr.alloc (.cells #[.string y.f0, .int .i64 y.f1] 67)).cell? ⟨wr.heap.size, 0, none⟩ = some (.string y.f0) := (blk_cell kX 0).trans rfl
          have y1 : (wr.alloc (.cells #[.string y.f0, .int .i64 y.f1] 67)).cell? ⟨wr.heap.size, 1, none⟩ = some (.int .i64 y.f1) := (blk_cell kX 1).trans rfl
          have zg := kG.cell hlt2
          have fg := blk_frozen kG i2
          have hjj : (i2 : Int) < (n : Int) := by omega
          have hj0 : (0 : Int) ≤ (i2 : Int) := by omega
          obtain ⟨b, hb⟩ : ∃ b, b = marked d.dir i2 := ⟨_, rfl⟩
          have HBb := Aside0.mk hb
          have hz : atTo d.dir i2 i2 = if b = true then 1 else 0 := by rw [hb]; unfold Dk.atTo; simp
          rw [hz] at zg
          have KB := Aside0.mk kB
          have KK := Aside0.mk kK
          have KR := Aside0.mk kR
          have KG : Aside0 (Nums _ G n _) := Aside0.mk kG
          have KX := Aside0.mk kX
          have KO := Aside0.mk kO
          clear kB kK kR kG kX kO HB HK HR HG HO hb hz
          cases b with
          | false =>
            replace zg : (wr.alloc (.cells #[.string y.f0, .int .i64 y.f1] 67)).cell? ⟨G, i2, none⟩ = some (.int .i64 0) := zg
            clear hX
            go_wp2
            go_roundg (n - i2 - 1)
            case measure => omega
            case rel => exact ⟨i2 + 1, _, by first | rfl | (simp; done), rfl, hlt2, by omega, KB, KK, KR, ⟨by
              have e : atTo d.dir i2 = atTo d.dir (i2 + 1) := funext fun j => Dk.atTo_skip _ _ HBb.out.symm j
              rw [← e]; exact KG.out⟩, ⟨by rw [Dk.keptTo_succ, ← HBb.out]; simpa using KO.out⟩⟩
          | true =>
            replace zg : (wr.alloc (.cells #[.string y.f0, .int .i64 y.f1] 67)).cell? ⟨G, i2, none⟩ = some (.int .i64 1) := zg
            obtain ⟨Ak, ck, rfl⟩ := Kd.R_slice KO.out
            have LK := Aside0.mk (Dk.keptTo_length d.dir d.ino i2)
            have hln : (keptTo d.dir d.ino i2).length ≤ 1000000 := by rw [LK.out]; have := Dk.num_le d.dir i2; omega
            clear hX
            have hDG : D ≠ G := by have := ED.out; have := EG.out; omega
            have hSG : S ≠ G := by have := ES.out; have := EG.out; omega
            have hGw : w.heap.size ≤ G := by have := EG.out; omega
            have hXG : wr.heap.size ≠ G := blk_ne KX.out KG.out (by decide)
            go_upto_region 13 with fail
            have kB := KB.out.setCell (p := ⟨G, i2, none⟩) hGw (.int .i64 ((keptTo d.dir d.ino i2).length : Nat))
            have kK := blk_far KK.out (p := ⟨G, i2, none⟩) hDG (.int .i64 ((keptTo d.dir d.ino i2).length : Nat))
            have kR := blk_far KR.out (p := ⟨G, i2, none⟩) hSG (.int .i64 ((keptTo d.dir d.ino i2).length : Nat))
            have kX := blk_far KX.out (p := ⟨G, i2, none⟩) hXG (.int .i64 ((keptTo d.dir d.ino i2).length : Nat))
            have kG : Nums _ G n (atTo d.dir (i2 + 1)) := KG.out.set hlt2 ((keptTo d.dir d.ino i2).length : Nat) (fun k => by rw [LK.out]; exact Dk.atTo_set _ _ HBb.out.symm k)
            have kO := Kd.R_set KO.out KG.out (by decide) i2 (.int .i64 ((keptTo d.dir d.ino i2).length : Nat))
            generalize (wr.alloc (.cells #[.string y.f0, .int .i64 y.f1] 67)).setCell ⟨G, i2, none⟩ (.int .i64 ((keptTo d.dir d.ino i2).length : Nat)) = W2 at kB kK kR kX kG kO ⊢
            obtain ⟨X, hX⟩ : ∃ X, X = wr.heap.size := ⟨_, rfl⟩
            rw [← hX] at kX ⊢
            have y0 : W2.cell? ⟨X, 0, none⟩ = some (.string y.f0) := (blk_cell kX 0).trans rfl
            have y1 : W2.cell? ⟨X, 1, none⟩ = some (.int .i64 y.f1) := (blk_cell kX 1).trans rfl
            have QB := Aside0.mk (below_alloc kB (.cells #[.string y.f0, .int .i64 y.f1] 67))
            have QK := Aside0.mk (blk_alloc kK (.cells #[.string y.f0, .int .i64 y.f1] 67))
            have QR := Aside0.mk (blk_alloc kR (.cells #[.string y.f0, .int .i64 y.f1] 67))
            have QG : Aside0 (Nums _ G n (atTo d.dir (i2 + 1))) := ⟨blk_alloc kG (.cells #[.string y.f0, .int .i64 y.f1] 67)⟩
            have QO := Aside0.mk (Kd.R_below kO ((Below.refl W2.heap.size W2).alloc (Nat.le_refl _) (.cells #[.string y.f0, .int .i64 y.f1] 67)))
            have QX := Aside0.mk (C67_one (blk_new W2 (.cells #[.string y.f0, .int .i64 y.f1] 67)))
            have QS := Aside0.mk (Nat.le_trans kB.size ((Below.refl W2.heap.size W2).alloc (Nat.le_refl _) (.cells #[.string y.f0, .int .i64 y.f1] 67)).size)
            clear kB kK kR kX kG kO hX KB KK KR KG KX KO
            go_wp2_with (at_builtin; go_loud (refine Kd.R_append_rows k67 (Rr := k67.K _) (w0 := w) w.heap.size rfl _ _ 43 67 (.agg #[.string ⟨#[]⟩, .int .i64 0]) 24 rfl Try.underlying43 info67 rfl (by decide) (by decide) (.slice Ak (keptTo d.dir d.ino i2).length ck) (keptTo d.dir d.ino i2) [y] (some ⟨W2.heap.size, 0, none⟩) 1 1 (fun _ => True) (fun _ => False) rfl rfl QO.out QX.out ?q2 ?q3 ?q4 QB.out QS.out ?q7 ?_); (case q2 => intro y cs h; obtain rfl := k67_open h; exact k67_mkM _ _ _ _); (case q3 => intro k h; exact h.elim); (case q4 => intro k hk; trivial); (case q7 => omega); intro v1 w1 h1 h2 h3 h4; have H1 := Aside0.mk h1; have H2 := Aside0.mk h2; have H3 := Aside0.mk h3; clear h1 h2 h3 h4)
            go_roundg (n - i2 - 1)
            case measure => omega
            case rel => exact ⟨i2 + 1, v1, by first | rfl | (simp; done), rfl, hlt2, by omega, H2, ⟨blk_grown QK.out H3.out (Kd.R_ne QO.out QK.out (by decide))⟩, ⟨blk_grown QR.out H3.out (Kd.R_ne QO.out QR.out (by decide))⟩, ⟨blk_grown QG.out H3.out (Kd.R_ne QO.out QG.out (by decide))⟩, ⟨by rw [Dk.keptTo_succ, ← HBb.out, Y.out]; exact H1.out⟩⟩
        · have G2 : Aside0 (Nums wr G n (atTo d.dir n)) := ⟨by
            have := HG.out
            rwa [show i2 = n by omega] at this⟩
          have O2 : Aside0 (Kd.R k67 67 wr w.heap.size (fun _ => True) vk (keptTo d.dir d.ino n)) := ⟨by
            have := HO.out
            rwa [show i2 = n by omega] at this⟩
          have R2 := Aside0.mk (Kd.R_mono (Kd.R_below R1.out HB.out) (ok' := fun _ => True) (fun _ _ => trivial))
          have BT : Aside0 (Below T w wr) := ⟨⟨HB.out.os, HB.out.tape, HB.out.output, HB.out.size, fun k hk => HB.out.block k (Nat.lt_of_lt_of_le hk hT)⟩⟩
          have SZ := Aside0.mk HB.out.size
          have KT : Aside0 (KeepT [69] w wr) := ⟨KeepT.of_below HB.out⟩
          have z1 : wr.cell? ⟨D, 1, none⟩ = some (.slice A1 m c1) := (blk_cell HK.out 1).trans rfl
          clear HG HO HB
          go_wp2_with fail
          go_loopg [52] m (fun kx s52 wq => ∃ i : Nat, s52 = .int .i64 i ∧ i ≤ m ∧ m - i ≤ kx ∧ Aside0 (Below T w wq) ∧ Aside0 (KeepT [69] w wq) ∧ Aside0 (w.heap.size ≤ wq.heap.size) ∧ Aside0 (wq.heap[D]? = some (.cells #[.slice A0 n c0, .slice A1 m c1, .slice A2 d.dur.length c2, .slice A3 d.ops.length c3] 47 (0, 0))) ∧ Aside0 (wq.heap[S]? = some (.cells #[.slice none 0 0, .slice none 0 0, .slice none 0 0, .slice none 0 0] 47 (0, 0))) ∧ Aside0 (Nums wq G n (atTo d.dir n)) ∧ Aside0 (Kd.R k67 67 wq w.heap.size (fun _ => True) vk (keptTo d.dir d.ino n)) ∧ Aside0 (Kd.R k69 69 wq T (fun _ => True) (.slice A1 m c1) ((d.dir.take i).map (ren d.dir) ++ d.dir.drop i)))
          case atStart => exact ⟨0, rfl, Nat.zero_le _, by omega, BT, KT, SZ, HK, HR, G2, O2, ⟨by have := R2.out; rw [← HM.out] at this; simpa using this⟩⟩
          case round =>
            clear BT KT SZ HK HR G2 O2 R2 z1
            obtain ⟨i3, rfl, hi3, hk3, BT, KT, SZ, HK, HR, HG, HO, HD⟩ := hrel
            by_cases hlt3 : i3 < m
            · have hil : i3 < d.dir.length := by have := HM.out; omega
              have hl : ((d.dir.take i3).map (ren d.dir) ++ d.dir.drop i3).length = m := by rw [List.length_append, List.length_map, List.length_take, List.length_drop]; have := HM.out; omega
              obtain ⟨g1, cur, e1, hh⟩ := R69_block HD.out (by omega)
              subst e1
              have hc2 := (R69_cells HD.out i3 (by omega)).2
              have ei : ((d.dir.take i3).map (ren d.dir) ++ d.dir.drop i3)[i3] = d.dir[i3] := by
                rw [List.getElem_append_right (by simp; omega), List.getElem_drop]
                congr 1
                simp; omega
              rw [ei] at hc2
              obtain ⟨y, hy⟩ : ∃ y, y = d.dir[i3] := ⟨_, rfl⟩
              obtain ⟨hy0, hy1⟩ := HI.out y (hy ▸ List.getElem_mem hil)
              obtain ⟨j, hj⟩ : ∃ j : Nat, y.f1 = (j : Int) := ⟨y.f1.toNat, (Int.toNat_of_nonneg hy0).symm⟩
              have hjn : j < n := by have := HN.out; omega
              have hat : atTo d.dir n j = ((num d.dir j : Nat) : Int) := by
                unfold Dk.atTo
                rw [if_pos (Dk.marked_mem (hy ▸ List.getElem_mem hil) hj), if_pos hjn]
              have zg := HG.out.cell hjn
              rw [hat] at zg
              rw [← hy, hj] at hc2
              have hrow := R69_set HD.out hl i3 (by omega) ((num d.dir j : Nat) : Int)
              have enew : ((d.dir.take i3).map (ren d.dir) ++ d.dir.drop i3).set i3 ⟨((d.dir.take i3).map (ren d.dir) ++ d.dir.drop i3)[i3].f0, ((num d.dir j : Nat) : Int)⟩ = (d.dir.take (i3 + 1)).map (ren d.dir) ++ d.dir.drop (i3 + 1) := by
                rw [ei, ← hy, List.set_append_right _ _ (by simp; omega), List.take_succ_eq_append_getElem hil, List.map_append, List.append_assoc, List.drop_eq_getElem_cons hil, ← hy]
                congr 1
                rw [show i3 - ((d.dir.take i3).map (ren d.dir)).length = 0 by simp; omega, List.set_cons_zero]
                simp only [List.map_cons, List.map_nil, List.singleton_append]
                congr 1
                unfold Dk.ren
                rw [hj, Int.toNat_natCast]
              rw [enew] at hrow
              have ROW := Aside0.mk hrow
              have hTg : T ≤ g1 := own_base (R69_own HD.out) g1 rfl
              have hgD : g1 ≠ D := blk_ne hh HK.out (by decide)
              have hgS : g1 ≠ S := blk_ne hh HR.out (by decide)
              have hgG : g1 ≠ G := blk_ne hh HG.out (by decide)
              have HH := Aside0.mk hh
              have ff := blk_frozen hh (i3 * 2 + 1)
              have z1 : wr.cell? ⟨D, 1, none⟩ = some (.slice (some ⟨g1, 0, none⟩) m c1) := (blk_cell HK.out 1).trans rfl
              have hj0 : (0 : Int) ≤ (j : Int) := by omega
              have hj1 : (j : Int) < (n : Int) := by omega
              have hi0 : (0 : Int) ≤ (i3 : Int) := by omega
              have hi1 : (i3 : Int) < (m : Int) := by omega
              clear hrow enew hh hy hy0 hy1 hj hat ei hl hil
              go_wp2_with fail
              go_still_tail 14, (by kernel_rfl)
              change wpList _ _ _ _ _ wr.drew
              go_wp2
              go_roundg (m - i3 - 1)
              case measure => omega
              case rel => exact ⟨i3 + 1, by first | rfl | (simp; done), hlt3, by omega, ⟨below_drew (BT.out.setCell (p := ⟨g1, i3 * 2 + 1, none⟩) hTg _)⟩, ⟨KeepT.drew (KT.out.set HH.out (by decide) _ _)⟩, ⟨by have := SZ.out; simpa [World.setCell] using this⟩, ⟨blk_drew (blk_far HK.out (Ne.symm hgD) _)⟩, ⟨blk_drew (blk_far HR.out (Ne.symm hgS) _)⟩, ⟨blk_drew (blk_far HG.out (Ne.symm hgG) _)⟩, ⟨Kd.R_drew (Kd.R_set HO.out HH.out (by decide) (i3 * 2 + 1) _)⟩, ⟨Kd.R_drew ROW.out⟩⟩
            · have ROW := Aside0.mk (show Kd.R k69 69 wr T (fun _ => True) (.slice A1 m c1) (d.dir.map (ren d.dir)) from by
                have := HD.out
                rwa [List.take_of_length_le (by have := HM.out; omega), List.drop_of_length_le (by have := HM.out; omega), List.append_nil] at this)
              have lr : (d.dir.map (ren d.dir)).length = m := by rw [List.length_map]; exact HM.out.symm
              have CC := Aside0.mk (fun w' hC => clone69_calls A1 c1 (d.dir.map (ren d.dir)) w' hC (by omega) (by omega))
              have RD := Aside0.mk (show Kd.C k69 wr A1 (d.dir.map (ren d.dir)).length (d.dir.map (ren d.dir)) from by
                obtain ⟨A, c', e, _, hr⟩ := Kd.R_reads ROW.out
                injection e with e1 _ _
                subst e1
                exact hr)
              rw [lr] at CC RD
              have LR := Aside0.mk lr
              have z1 : wr.cell? ⟨D, 1, none⟩ = some (.slice A1 m c1) := (blk_cell HK.out 1).trans rfl
              obtain ⟨rn, hrn⟩ : ∃ rn, rn = d.dir.map (ren d.dir) := ⟨_, rfl⟩
              rw [← hrn] at CC RD ROW LR
              have RN := Aside0.mk hrn
              have BW := Aside0.mk (Below.refl wr.heap.size wr)
              obtain ⟨Ak, ck, rfl⟩ := Kd.R_slice HO.out
              have hSD : S ≠ D := by have := ES.out; have := ED.out; omega
              have hDS : D ≠ S := fun e => hSD e.symm
              clear HD hrn lr
              go_wp2_with fail
              go_region_held3 (fun w' => w'.cell? ⟨D, 1, none⟩ = some (.slice A1 m c1)) (first | go_keep | exact (blk_cell HK.out 1).trans rfl)
                (first | (go_at_call 90; refine (CC.out _ (Kd.C_below RD.out (by first | exact BW.out | exact BW.out.drew))).mono ?_; rintro e w1 ⟨v1, rfl, h1, h2⟩; obtain ⟨B1, e1, hv1⟩ := Kd.R_slice h1; subst hv1; have O1 := Aside0.mk h1; have BN := Aside0.mk (below_step (by first | exact BW.out | exact BW.out.drew) h2); have n_ := Aside0.mk (blk_below (o := .cells #[.slice A0 n c0, .slice A1 m c1, .slice A2 d.dur.length c2, .slice A3 d.ops.length c3] 47 (0, 0)) (by first | exact HK.out | exact blk_drew HK.out) h2); clear HK; have HK := n_; have KS := Aside0.mk (blk_below (o := .cells #[.slice none 0 0, .slice none 0 0, .slice none 0 0, .slice none 0 0] 47 (0, 0)) (by first | exact HR.out | exact blk_drew HR.out) h2); have s0 := (blk_cell KS.out 0).trans rfl; have s1 := (blk_cell KS.out 1).trans rfl; have s2 := (blk_cell KS.out 2).trans rfl; have s3 := (blk_cell KS.out 3).trans rfl; have f0 := blk_frozen KS.out 0; have f1 := blk_frozen KS.out 1; have f2 := blk_frozen KS.out 2; have f3 := blk_frozen KS.out 3; clear n_ h1 h2))
              rename_i hq
              clear hq s0 s1 s2 s3 f0 f1 f2 f3 z1
              have D0 : DR w1 T (.agg #[.slice Ak (keptTo d.dir d.ino n).length ck, .slice A1 m c1, .slice B1 rn.length e1, .slice none 0 0]) (Dk.settle d) := by
                have ob := R69_own ROW.out
                obtain ⟨iq, hiq⟩ := Kd.R_own O1.out
                refine ⟨_, _, _, _, rfl, ?_, ?_, ?_, Kd.R_nil _ _ _ _ _⟩
                · have := Kd.R_lower (Kd.R_below HO.out BN.out) hT
                  rw [HN.out] at this
                  rw [HN.out]
                  exact this
                · have := Kd.R_mono (ok' := fun k => some k ≠ (Value.slice B1 rn.length e1).ownBlock) (Kd.R_below (Kd.R_bound ROW.out) BN.out) (fun k hk he => by have u1 : wr.heap.size ≤ k := own_base hiq k he.symm; have u2 := hk.2.2.1; omega)
                  rw [RN.out] at this ⊢
                  exact this
                · have := Kd.R_mono (ok' := fun k => some k ≠ (Value.slice A1 m c1).ownBlock) (Kd.R_bound O1.out) (fun k hk he => by have u1 := own_lt ob k he.symm; have u2 : wr.heap.size ≤ k := hk.2.1; omega)
                  rw [RN.out] at this ⊢
                  exact Kd.R_lower this (Nat.le_trans hT SZ.out)
              have q0 := KS.out
              have q1 := blk_put q0 0 (.slice Ak (keptTo d.dir d.ino n).length ck) rfl
              have q2 := blk_put q1 1 (.slice A1 m c1) rfl
              have q3 := blk_put q2 2 (.slice B1 rn.length e1) rfl
              have q4 := blk_put q3 3 (.slice none 0 0) rfl
              have D4 := Aside0.mk (DR.set47 (DR.set47 (DR.set47 (DR.set47 D0 q0 0 (.slice Ak (keptTo d.dir d.ino n).length ck)) q1 1 (.slice A1 m c1)) q2 2 (.slice B1 rn.length e1)) q3 3 (.slice none 0 0))
              have Q4 := Aside0.mk q4
              have hTS : T ≤ S := by have := ES.out; omega
              have BT1 : Below T w w1 := below_then BT.out (Nat.le_trans hT SZ.out) BN.out
              have HB2 := Aside0.mk ((((BT1.setCell (p := ⟨S, 0, none⟩) hTS (.slice Ak (keptTo d.dir d.ino n).length ck)).setCell (p := ⟨S, 1, none⟩) hTS (.slice A1 m c1)).setCell (p := ⟨S, 2, none⟩) hTS (.slice B1 rn.length e1)).setCell (p := ⟨S, 3, none⟩) hTS (.slice none 0 0))
              have hwS : w.heap.size ≤ S := by have := ES.out; omega
              have KT2 := Aside0.mk (((((KT.out.below BN.out).set_new hwS 0 (.slice Ak (keptTo d.dir d.ino n).length ck)).set_new hwS 1 (.slice A1 m c1)).set_new hwS 2 (.slice B1 rn.length e1)).set_new hwS 3 (.slice none 0 0))
              clear D0 q0 q1 q2 q3 q4 BT1
              go_wp2
              refine bodyPost_ret (results_cell_row rfl _ _ S 47 _ (0, 0) _ rfl Q4.out Try.underlying47 rfl (by kernel_rfl)) rfl ?_
              exact ⟨_, rfl, D4.out, HB2.out, KT2.out⟩
end Go.Proofs.Ytnaddmkaakdhoaa.J

end
section
namespace Go.Proofs.Ytnaddmkaakdhoaa.J
open Go.RowKit Go.Proofs.YtnaddmkaakdhoaaW.PrintWords Go.Proofs.YtnaddmkaakdhoaaW.PrintLast Go.Proofs.YtnaddmkaakdhoaaW.PrintMore
set_option linter.unusedVariables false
set_option linter.unusedSimpArgs false
theorem getD67 {l : List S67} {i : Nat} (h : i < l.length) : l.getD i z67 = l[i] := by
  rw [List.getD_eq_getElem?_getD, List.getElem?_eq_getElem h]; rfl
def cs67 : List S67 → List Value
  | [] => []
  | x :: l => .string x.f0 :: .int .i64 x.f1 :: cs67 l
theorem cs67_len : ∀ l, (cs67 l).length = l.length * 2
  | [] => rfl
  | x :: l => by simp [cs67, cs67_len l]; omega
theorem cs67_take : ∀ (l : List S67) (i : Nat), cs67 (l.take i) = (cs67 l).take (i * 2)
  | [], i => by simp [cs67]
  | x :: l, 0 => by simp [cs67]
  | x :: l, i + 1 => by rw [List.take_succ_cons, cs67, cs67_take l i, show (i + 1) * 2 = i * 2 + 1 + 1 by omega]; rfl
theorem cs67_drop : ∀ (l : List S67) (i : Nat), cs67 (l.drop i) = (cs67 l).drop (i * 2)
  | [], i => by simp [cs67]
  | x :: l, 0 => by simp [cs67]
  | x :: l, i + 1 => by rw [List.drop_succ_cons, cs67_drop l i, show (i + 1) * 2 = i * 2 + 1 + 1 by omega]; rfl
theorem reps67 {w : World} {T : Nat} {ok : Nat → Prop} : ∀ (l : List S67), Reps (k67.M w T ok) 2 l (cs67 l)
  | l => ⟨cs67_len l, fun j p hj => by
    have e : (cs67 l).drop (j * 2) = cs67 (l.drop j) := (cs67_drop l j).symm
    have e2 : (cs67 (l.drop j)).take (1 * 2) = cs67 ((l.drop j).take 1) := (cs67_take _ 1).symm
    have hl : j < l.length := (List.getElem?_eq_some_iff.1 hj).1
    have hp : l[j] = p := (List.getElem?_eq_some_iff.1 hj).2
    rw [e, show (2 : Nat) = 1 * 2 from rfl, e2, List.drop_eq_getElem_cons hl, hp]
    exact k67_mkM w T ok p⟩
theorem reps67_eq {w : World} {T : Nat} {ok : Nat → Prop} : ∀ (l : List S67) (cs : List Value), Reps (k67.M w T ok) 2 l cs → cs = cs67 l
  | [], cs, h => List.eq_nil_of_length_eq_zero (by simpa using h.1)
  | x :: l, cs, h => by
    have h0 := k67_openM (h.2 0 x rfl)
    simp only [Nat.zero_mul, List.drop_zero] at h0
    have h1 : Reps (k67.M w T ok) 2 l (cs.drop 2) := ⟨by rw [List.length_drop, h.1]; simp; omega, fun j p hj => by
      rw [List.drop_drop]
      have := h.2 (j + 1) p (by simpa using hj)
      rwa [show (j + 1) * 2 = 2 + j * 2 by omega] at this⟩
    have h2 := reps67_eq l _ h1
    rw [← List.take_append_drop 2 cs, h0, h2]
    rfl
theorem R67_own {w : World} {T : Nat} {P : Nat → Prop} {v : Value} {l : List S67} (h : Kd.R k67 67 w T P v l) : w.ownsRow T 67 2 v l.length (cs67 l) := by
  obtain ⟨_, inner, ho, hr⟩ := h
  rw [← reps67_eq l inner hr]
  exact ho
theorem R67_of {w : World} {T n : Nat} {P : Nat → Prop} {v : Value} {l : List S67} (h : w.ownsRow T 67 2 v n (cs67 l)) (hn : l.length = n) (hP : ∀ k, v.ownBlock = some k → P k) : Kd.R k67 67 w T P v l := by
  subst hn
  exact ⟨hP, cs67 l, h, reps67 l⟩

theorem R67_cells {w : World} {T : Nat} {P : Nat → Prop} {g c n : Nat} {l : List S67} (h : Kd.R k67 67 w T P (.slice (some ⟨g, 0, none⟩) n c) l) (i : Nat) (hi : i < l.length) : w.cell? ⟨g, i * 2, none⟩ = some (.string l[i].f0) ∧ w.cell? ⟨g, i * 2 + 1, none⟩ = some (.int .i64 l[i].f1) := by
  obtain ⟨A, c', e, _, hr⟩ := Kd.R_reads h
  injection e with e1 _ _
  subst e1
  obtain ⟨ad, ea, h0, h1⟩ := at_T67 hr (i : Int) (by omega) (by omega)
  injection ea with ea
  subst ea
  rw [show rd_T67 l (i : Int) = l[i] from getD67 hi] at h0 h1
  rw [Int.toNat_natCast, Addr.add_lit, Nat.zero_add] at h0 h1
  exact ⟨h0, h1⟩
theorem R67_block {w : World} {T : Nat} {P : Nat → Prop} {A : Option Addr} {n c : Nat} {l : List S67} (h : Kd.R k67 67 w T P (.slice A n c) l) (h0 : 0 < l.length) : ∃ g cur, A = some ⟨g, 0, none⟩ ∧ w.heap[g]? = some (.cells cur 67 (0, 0)) := by
  rcases (R67_own h).2 with ⟨_, e⟩ | ⟨g', cap, cur, e, hg, hh, _⟩
  · rw [e] at h0; exact absurd h0 (Nat.lt_irrefl _)
  · injection e with e _ _
    exact ⟨g', cur, e, hh⟩
theorem cs67_set1 : ∀ (l : List S67) (i : Nat) (m : Int) (h : i < l.length), (cs67 l).set (i * 2 + 1) (.int .i64 m) = cs67 (l.set i ⟨l[i].f0, m⟩)
  | x :: l, 0, m, _ => rfl
  | x :: l, i + 1, m, h => by
    have := cs67_set1 l i m (by simpa using h)
    rw [List.set_cons_succ, cs67, cs67, show (i + 1) * 2 + 1 = i * 2 + 1 + 1 + 1 by omega]
    simpa using this
theorem cs67_set0 : ∀ (l : List S67) (i : Nat) (m : ByteArray) (h : i < l.length), (cs67 l).set (i * 2) (.string m) = cs67 (l.set i ⟨m, l[i].f1⟩)
  | x :: l, 0, m, _ => rfl
  | x :: l, i + 1, m, h => by
    have := cs67_set0 l i m (by simpa using h)
    rw [List.set_cons_succ, cs67, cs67, show (i + 1) * 2 = i * 2 + 1 + 1 by omega]
    simpa using this
theorem R67_put {w : World} {T : Nat} {P : Nat → Prop} {g c n : Nat} {l l' : List S67} (h : Kd.R k67 67 w T P (.slice (some ⟨g, 0, none⟩) n c) l) (hn : l.length = n) (hl : l'.length = n) (j : Nat) (u : Value) (e : (cs67 l).set j u = cs67 l') : Kd.R k67 67 (w.setCell ⟨g, j, none⟩ u) T P (.slice (some ⟨g, 0, none⟩) n c) l' := by
  subst hn
  have ho := R67_own h
  refine R67_of (n := l.length) ?_ hl h.1
  refine ⟨by rw [cs67_len, hl], ?_⟩
  rcases ho.2 with ⟨e, _⟩ | ⟨g', cap, cur, e', hg, hh, hnc, hcm, hcs, htk⟩
  · injection e with e; cases e
  · injection e' with e1 _ e2
    injection e1 with e1
    injection e1 with e1
    subst e1
    subst e2
    refine .inr ⟨g, c, _, rfl, hg, blk_set hh _ _, hnc, hcm, by rw [Array.size_setIfInBounds]; exact hcs, ?_⟩
    rw [Array.toList_setIfInBounds, List.take_set, htk]
    exact e
theorem C49_one {w : World} {vb : Nat} {x : S49} (h : w.heap[vb]? = some (.cells #[.int .i64 x.f0, .string x.f1, .string x.f2, .string x.f3] 49 (0, 0))) : Kd.C k49 w (some ⟨vb, 0, none⟩) 1 [x] :=
  ⟨rfl, by omega, fun _ => ⟨_, rfl, fun j p hj => by
    obtain rfl : j = 0 := by have := (List.getElem?_eq_some_iff.1 hj).1; simp at this; exact this
    obtain rfl : x = p := by simpa using hj
    refine ⟨_, rfl, k49_mk w x, fun i u hu => ?_⟩
    rw [Addr.add_lit, blk_cell h]
    match i, hu with
    | 0, hu => simpa using hu
    | 1, hu => simpa using hu
    | 2, hu => simpa using hu
    | 3, hu => simpa using hu
    | k + 4, hu => simp at hu⟩⟩
theorem put47 {W : World} {S : Nat} {b0 b1 b2 b3 : Value} (h : W.heap[S]? = some (.cells #[b0, b1, b2, b3] 47 (0, 0))) (a0 a1 a2 a3 : Value) : ((((W.setCell ⟨S, 0, none⟩ a0).setCell ⟨S, 1, none⟩ a1).setCell ⟨S, 2, none⟩ a2).setCell ⟨S, 3, none⟩ a3).heap[S]? = some (.cells #[a0, a1, a2, a3] 47 (0, 0)) :=
  blk_put (blk_put (blk_put (blk_put h 0 a0 rfl) 1 a1 rfl) 2 a2 rfl) 3 a3 rfl
theorem DR.put47 {W : World} {T : Nat} {a : Value} {d : Dsk} {S : Nat} {b0 b1 b2 b3 : Value} (hd : DR W T a d) (h : W.heap[S]? = some (.cells #[b0, b1, b2, b3] 47 (0, 0))) (a0 a1 a2 a3 : Value) : DR ((((W.setCell ⟨S, 0, none⟩ a0).setCell ⟨S, 1, none⟩ a1).setCell ⟨S, 2, none⟩ a2).setCell ⟨S, 3, none⟩ a3) T a d :=
  DR.set47 (DR.set47 (DR.set47 (DR.set47 hd h 0 a0) (blk_put h 0 a0 rfl) 1 a1) (blk_put (blk_put h 0 a0 rfl) 1 a1 rfl) 2 a2) (blk_put (blk_put (blk_put h 0 a0 rfl) 1 a1 rfl) 2 a2 rfl) 3 a3
theorem below_put47 {w W : World} {T S : Nat} (hb : Below T w W) (hT : T ≤ S) (a0 a1 a2 a3 : Value) : Below T w ((((W.setCell ⟨S, 0, none⟩ a0).setCell ⟨S, 1, none⟩ a1).setCell ⟨S, 2, none⟩ a2).setCell ⟨S, 3, none⟩ a3) :=
  (((hb.setCell (p := ⟨S, 0, none⟩) hT a0).setCell (p := ⟨S, 1, none⟩) hT a1).setCell (p := ⟨S, 2, none⟩) hT a2).setCell (p := ⟨S, 3, none⟩) hT a3
theorem DR.zero (w : World) (T : Nat) : DR w T (.agg #[.slice none 0 0, .slice none 0 0, .slice none 0 0, .slice none 0 0]) ⟨[], [], [], []⟩ :=
  ⟨_, _, _, _, rfl, Kd.R_nil _ _ _ _ _, Kd.R_nil _ _ _ _ _, Kd.R_nil _ _ _ _ _, Kd.R_nil _ _ _ _ _⟩
end Go.Proofs.Ytnaddmkaakdhoaa.J
namespace Go.Proofs.Ytnaddmkaakdhoaa.Dk
open J
def E0 : Dsk := ⟨[], [], [], []⟩
def ent (d : Dsk) (s : ByteArray) : Nat := (d.dir.getD (pos d.dir s) z69).f1.toNat
def app (d : Dsk) (o : S49) : Dsk × Int :=
  if fieldsOK o = true then
    (if o.f0 = 6 then (settle d, 0)
     else if o.f0 = 2 ∨ o.f0 = 3 then
       (if has d.dir o.f1 = true then
         (if o.f0 = 3 then (⟨d.ino.set (ent d o.f1) ⟨(d.ino.getD (ent d o.f1) z67).f0, ((d.ino.getD (ent d o.f1) z67).f0.size : Nat)⟩, d.dir, d.dur, d.ops⟩, 0)
          else if 1048576 < (d.ino.getD (ent d o.f1) z67).f0.size + o.f3.size then (E0, 21)
          else (⟨d.ino.set (ent d o.f1) ⟨(d.ino.getD (ent d o.f1) z67).f0 ++ o.f3, (d.ino.getD (ent d o.f1) z67).f1⟩, d.dir, d.dur, d.ops⟩, 0))
        else (E0, 11))
     else if (chg d.dir o (d.ino.length : Nat)).2 = 0 then (⟨if o.f0 = 1 then d.ino ++ [z67] else d.ino, (chg d.dir o (d.ino.length : Nat)).1, d.dur, d.ops ++ [o]⟩, 0)
     else (E0, (chg d.dir o (d.ino.length : Nat)).2))
  else (E0, 1)
end Go.Proofs.Ytnaddmkaakdhoaa.Dk

end
section
namespace Go.Proofs.Ytnaddmkaakdhoaa.J
open Go.RowKit Go.Proofs.YtnaddmkaakdhoaaW.PrintWords Go.Proofs.YtnaddmkaakdhoaaW.PrintLast Go.Proofs.YtnaddmkaakdhoaaW.PrintMore
open Dk (Srt pos has chg fieldsOK app ent)
set_option linter.unusedVariables false
set_option linter.unusedSimpArgs false
theorem KeepT.put47 {ts : List Nat} {w W : World} (h : KeepT ts w W) {S : Nat} (hS : w.heap.size ≤ S) (a0 a1 a2 a3 : Value) : KeepT ts w ((((W.setCell ⟨S, 0, none⟩ a0).setCell ⟨S, 1, none⟩ a1).setCell ⟨S, 2, none⟩ a2).setCell ⟨S, 3, none⟩ a3) :=
  (((h.set_new hS 0 a0).set_new hS 1 a1).set_new hS 2 a2).set_new hS 3 a3
theorem DR.slices {w : World} {T : Nat} {a : Value} {d : Dsk} (h : DR w T a d) : ∃ A0 c0 A1 c1 A2 c2 A3 c3, a = .agg #[.slice A0 d.ino.length c0, .slice A1 d.dir.length c1, .slice A2 d.dur.length c2, .slice A3 d.ops.length c3] := by
  obtain ⟨A0, c0, A1, c1, A2, c2, A3, c3, e, _⟩ := h.reads
  exact ⟨A0, c0, A1, c1, A2, c2, A3, c3, e⟩
theorem DR.ino {W : World} {T : Nat} {g c n : Nat} {v1 v2 v3 : Value} {d : Dsk} {l' : List S67} {cur : Array Value} (h : DR W T (.agg #[.slice (some ⟨g, 0, none⟩) n c, v1, v2, v3]) d) (hh : W.heap[g]? = some (.cells cur 67 (0, 0))) (hn : d.ino.length = n) (hl : l'.length = n) (j : Nat) (u : Value) (e : (cs67 d.ino).set j u = cs67 l') :
    DR (W.setCell ⟨g, j, none⟩ u) T (.agg #[.slice (some ⟨g, 0, none⟩) n c, v1, v2, v3]) ⟨l', d.dir, d.dur, d.ops⟩ := by
  obtain ⟨u0, u1, u2, u3, e1, h0, h1, h2, h3⟩ := h
  injection e1 with e1
  injection e1 with e1
  simp only [List.cons.injEq] at e1
  obtain ⟨rfl, rfl, rfl, rfl, _⟩ := e1
  exact ⟨_, _, _, _, rfl, R67_put h0 hn hl j u e, Kd.R_set h1 hh (by decide) j u, Kd.R_set h2 hh (by decide) j u, Kd.R_set h3 hh (by decide) j u⟩
theorem R_other {α β : Type} {d : Kd α} {d' : Kd β} {e e' base T : Nat} {ok P : Nat → Prop} {w w1 : World} {v v1 : Value} {xs : List α} {ys : List β} (h : d.R e w base ok v xs) (r : d'.R e' w T P v1 ys) (he : ∀ q, q ∈ e :: d.E → q ≠ e') (hg : w.grownBy w1 v1.ownBlock) : d.R e w1 base ok v xs := by
  cases hb : v1.ownBlock with
  | none => exact Kd.R_grown h hg (fun k _ => by rw [hb]; simp)
  | some g =>
    obtain ⟨iq, hiq⟩ := Kd.R_own r
    obtain ⟨cells, hc⟩ := own_typed hiq g hb
    exact Kd.R_mono (Kd.R_grown (Kd.R_types h hc he) hg (fun k hk => by rw [hb]; intro e; exact hk.2 (Option.some.inj e))) (fun _ hk => hk.1)
theorem KeepT.grown {β : Type} {d' : Kd β} {e' T : Nat} {P : Nat → Prop} {ts : List Nat} {w W W' : World} {v1 : Value} {ys : List β} (h : KeepT ts w W) (r : d'.R e' W T P v1 ys) (he : e' ∈ ts) (hg : W.grownBy W' v1.ownBlock) : KeepT ts w W' := by
  intro k cs t hk ht
  have h1 := h k cs t hk ht
  refine (hg.block k (blk_lt h1) (fun e => ?_)).trans h1
  obtain ⟨iq, hiq⟩ := Kd.R_own r
  obtain ⟨cells, hc⟩ := own_typed hiq k e.symm
  rw [h1] at hc
  injection hc with hc
  injection hc with _ hc
  exact ht (hc ▸ he)
theorem DR.ino' {w w1 : World} {T : Nat} {v0 v1 v2 v3 v0' : Value} {d : Dsk} {l' : List S67} (h : DR w T (.agg #[v0, v1, v2, v3]) d) (hr : Kd.R k67 67 w1 T (fun _ => True) v0' l') (hg : w.grownBy w1 v0.ownBlock) : DR w1 T (.agg #[v0', v1, v2, v3]) ⟨l', d.dir, d.dur, d.ops⟩ := by
  obtain ⟨u0, u1, u2, u3, e1, h0, h1, h2, h3⟩ := h
  injection e1 with e1
  injection e1 with e1
  simp only [List.cons.injEq] at e1
  obtain ⟨rfl, rfl, rfl, rfl, _⟩ := e1
  exact ⟨_, _, _, _, rfl, hr, R_other h1 h0 (by decide) hg, R_other h2 h0 (by decide) hg, R_other h3 h0 (by decide) hg⟩
theorem DR.ops' {w w1 : World} {T : Nat} {v0 v1 v2 v3 v3' : Value} {d : Dsk} {l' : List S49} (h : DR w T (.agg #[v0, v1, v2, v3]) d) (hr : Kd.R k49 49 w1 T (fun _ => True) v3' l') (hg : w.grownBy w1 v3.ownBlock) : DR w1 T (.agg #[v0, v1, v2, v3']) ⟨d.ino, d.dir, d.dur, l'⟩ := by
  obtain ⟨u0, u1, u2, u3, e1, h0, h1, h2, h3⟩ := h
  injection e1 with e1
  injection e1 with e1
  simp only [List.cons.injEq] at e1
  obtain ⟨rfl, rfl, rfl, rfl, _⟩ := e1
  exact ⟨_, _, _, _, rfl, R_other h0 h3 (by decide) hg, R_other h1 h3 (by decide) hg, R_other h2 h3 (by decide) hg, hr⟩
theorem DR.dir' {w w1 : World} {T : Nat} {v0 v1 v2 v3 v1' : Value} {d : Dsk} {l' : List S69} (h : DR w T (.agg #[v0, v1, v2, v3]) d) (ho : OwnAt w T (fun k => some k ≠ v2.ownBlock) v1 w1 v1' l') : DR w1 T (.agg #[v0, v1', v2, v3]) ⟨d.ino, l', d.dur, d.ops⟩ := by
  obtain ⟨u0, u1, u2, u3, e1, h0, h1, h2, h3⟩ := h
  injection e1 with e1
  injection e1 with e1
  simp only [List.cons.injEq] at e1
  obtain ⟨rfl, rfl, rfl, rfl, _⟩ := e1
  have o2 := R69_own h2
  refine ⟨_, _, _, _, rfl, R_other h0 h1 (by decide) ho.grown, Kd.R_mono ho.row (fun k hk => ?_), ?_, R_other h3 h1 (by decide) ho.grown⟩
  · rcases hk with hk | hk
    · exact hk
    · exact fun e => by have := own_lt o2 k e.symm; omega
  · refine Kd.R_mono (Kd.R_grown (Kd.R_bound h2) ho.grown (fun k hk => hk.1)) (fun k hk => ?_)
    rcases ho.at_ with e | e | ⟨b, e, hb⟩
    · rw [e]; exact hk.1
    · rw [e]; simp
    · rw [e]; intro e2; injection e2 with e2; have := hk.2.2.1; omega
theorem DR.rows {w : World} {T : Nat} {v0 v1 v2 v3 : Value} {d : Dsk} (h : DR w T (.agg #[v0, v1, v2, v3]) d) : Kd.R k67 67 w T (fun _ => True) v0 d.ino ∧ Kd.R k69 69 w T (fun k => some k ≠ v2.ownBlock) v1 d.dir ∧ Kd.R k69 69 w T (fun k => some k ≠ v1.ownBlock) v2 d.dur ∧ Kd.R k49 49 w T (fun _ => True) v3 d.ops := by
  obtain ⟨u0, u1, u2, u3, e1, h0, h1, h2, h3⟩ := h
  injection e1 with e1
  injection e1 with e1
  simp only [List.cons.injEq] at e1
  obtain ⟨rfl, rfl, rfl, rfl, _⟩ := e1
  exact ⟨h0, h1, h2, h3⟩
set_option maxHeartbeats 8000000 in
set_option maxRecDepth 100000 in
theorem apply_calls (T : Nat) (a : Value) (d : Dsk) (o : S49) (w : World) (h : DR w T a d) (hT : T ≤ w.heap.size) (hs : Sml 100000 d) (hsrt : Srt d.dir) (hin : ∀ x ∈ d.dir, 0 ≤ x.f1 ∧ x.f1 < d.ino.length) (hsz : ∀ x ∈ d.ino, x.f0.size ≤ 1048576) (ho : o.f3.size ≤ 140737488355328) :
    Calls Try.prog 77 #[a, .agg #[.int .i64 o.f0, .string o.f1, .string o.f2, .string o.f3]] w fun e w' => ∃ v, e = .returned (.tuple #[v, .int .i64 (app d o).2]) ∧ DR w' T v (app d o).1 ∧ Below T w w' ∧ KeepT [67, 69, 49] w w' := by
  obtain ⟨v0, v1, v2, v3, rfl, r0, r1, r2, r3⟩ := h
  have hs' := hs
  obtain ⟨n0, n1, n2, n3⟩ := hs
  obtain ⟨A0, c0, rfl, l0, q0⟩ := Kd.R_reads r0
  obtain ⟨A1, c1, rfl, l1, q1⟩ := Kd.R_reads r1
  obtain ⟨A2, c2, rfl, l2, q2⟩ := Kd.R_reads r2
  obtain ⟨A3, c3, rfl, l3, q3⟩ := Kd.R_reads r3
  have DD := Aside0.mk (show DR w T (.agg #[.slice A0 d.ino.length c0, .slice A1 d.dir.length c1, .slice A2 d.dur.length c2, .slice A3 d.ops.length c3]) d from ⟨_, _, _, _, rfl, r0, r1, r2, r3⟩)
  have HI := Aside0.mk hin
  have HZ := Aside0.mk hsz
  have HS := Aside0.mk hsrt
  have HM := Aside0.mk hs'
  obtain ⟨k, nm, tt, dat⟩ := o
  simp only at ho ⊢
  obtain ⟨res, hres⟩ : ∃ res, res = app d ⟨k, nm, tt, dat⟩ := ⟨_, rfl⟩
  rw [← hres]
  have RES := Aside0.mk hres
  have FC := Aside0.mk (fun w' => fields_calls ⟨k, nm, tt, dat⟩ w')
  obtain ⟨b, hb⟩ : ∃ b, b = fieldsOK ⟨k, nm, tt, dat⟩ := ⟨_, rfl⟩
  rw [← hb] at FC
  have FB := Aside0.mk hb
  clear hres hb r0 r1 r2 r3 q0 q1 q2 q3 hin hsz hsrt hs'
  go_enter Try.func77, Try.ntmps77
  go_wp2_with fail
  have hB := (((Below.refl w.heap.size w).alloc (Nat.le_refl _) (.cells #[.slice A0 d.ino.length c0, .slice A1 d.dir.length c1, .slice A2 d.dur.length c2, .slice A3 d.ops.length c3] 47)).alloc (by simp) (.cells #[.int .i64 k, .string nm, .string tt, .string dat] 49)).alloc (by simp; omega) (.cells #[.slice none 0 0, .slice none 0 0, .slice none 0 0, .slice none 0 0] 47)
  have hK := blk_alloc (blk_alloc (blk_new w (.cells #[.slice A0 d.ino.length c0, .slice A1 d.dir.length c1, .slice A2 d.dur.length c2, .slice A3 d.ops.length c3] 47)) (.cells #[.int .i64 k, .string nm, .string tt, .string dat] 49)) (.cells #[.slice none 0 0, .slice none 0 0, .slice none 0 0, .slice none 0 0] 47)
  have hO := blk_alloc (blk_new (w.alloc (.cells #[.slice A0 d.ino.length c0, .slice A1 d.dir.length c1, .slice A2 d.dur.length c2, .slice A3 d.ops.length c3] 47)) (.cells #[.int .i64 k, .string nm, .string tt, .string dat] 49)) (.cells #[.slice none 0 0, .slice none 0 0, .slice none 0 0, .slice none 0 0] 47)
  have hS := blk_new ((w.alloc (.cells #[.slice A0 d.ino.length c0, .slice A1 d.dir.length c1, .slice A2 d.dur.length c2, .slice A3 d.ops.length c3] 47)).alloc (.cells #[.int .i64 k, .string nm, .string tt, .string dat] 49)) (.cells #[.slice none 0 0, .slice none 0 0, .slice none 0 0, .slice none 0 0] 47)
  rw [show (w.alloc (.cells #[.slice A0 d.ino.length c0, .slice A1 d.dir.length c1, .slice A2 d.dur.length c2, .slice A3 d.ops.length c3] 47)).heap.size = w.heap.size + 1 by simp] at hO
  rw [show ((w.alloc (.cells #[.slice A0 d.ino.length c0, .slice A1 d.dir.length c1, .slice A2 d.dur.length c2, .slice A3 d.ops.length c3] 47)).alloc (.cells #[.int .i64 k, .string nm, .string tt, .string dat] 49)).heap.size = w.heap.size + 1 + 1 by simp] at hS
  generalize ((w.alloc (.cells #[.slice A0 d.ino.length c0, .slice A1 d.dir.length c1, .slice A2 d.dur.length c2, .slice A3 d.ops.length c3] 47)).alloc (.cells #[.int .i64 k, .string nm, .string tt, .string dat] 49)).alloc (.cells #[.slice none 0 0, .slice none 0 0, .slice none 0 0, .slice none 0 0] 47) = W0 at hB hK hO hS ⊢
  refine (FC.out W0).mono ?_
  rintro e w1 ⟨rfl, hb1⟩
  have HB := Aside0.mk (below_step hB hb1)
  have HK := Aside0.mk (blk_below hK hb1)
  have HO := Aside0.mk (blk_below hO hb1)
  have HSS := Aside0.mk (blk_below hS hb1)
  clear hB hK hO hS hb1 FC
  obtain ⟨D, hD⟩ : ∃ D, D = w.heap.size := ⟨_, rfl⟩
  obtain ⟨O, hO⟩ : ∃ O, O = w.heap.size + 1 := ⟨_, rfl⟩
  obtain ⟨S, hS⟩ : ∃ S, S = w.heap.size + 1 + 1 := ⟨_, rfl⟩
  have ED := Aside0.mk hD
  have EO := Aside0.mk hO
  have ES := Aside0.mk hS
  rw [← hS] at HSS ⊢
  rw [← hO] at HO ⊢
  rw [← hD] at HK ⊢
  have hTD : T ≤ D := by omega
  have hTS : T ≤ S := by omega
  have hDS : D ≠ S := by omega
  have hSD : S ≠ D := by omega
  have hDO : D ≠ O := by omega
  have hOD : O ≠ D := by omega
  have hOS : O ≠ S := by omega
  have hSO : S ≠ O := by omega
  clear hD hO hS
  have DW := Aside0.mk (DR.below DD.out HB.out)
  have BT : Aside0 (Below T w w1) := ⟨⟨HB.out.os, HB.out.tape, HB.out.output, HB.out.size, fun k hk => HB.out.block k (Nat.lt_of_lt_of_le hk hT)⟩⟩
  have KT : Aside0 (KeepT [67, 69, 49] w w1) := ⟨KeepT.of_below HB.out⟩
  have hwS : w.heap.size ≤ S := by have := ES.out; omega
  have hwD : w.heap.size ≤ D := by have := ED.out; omega
  have hTw : T ≤ w1.heap.size := Nat.le_trans hT HB.out.size
  clear HB DD
  cases b with
  | false =>
    have E := Aside0.mk (show res = (Dk.E0, 1) from by rw [RES.out]; unfold Dk.app; rw [← FB.out]; rfl)
    have s0 := (blk_cell HSS.out 0).trans rfl
    have s1 := (blk_cell HSS.out 1).trans rfl
    have s2 := (blk_cell HSS.out 2).trans rfl
    have s3 := (blk_cell HSS.out 3).trans rfl
    have f0 := blk_frozen HSS.out 0
    have f1 := blk_frozen HSS.out 1
    have f2 := blk_frozen HSS.out 2
    have f3 := blk_frozen HSS.out 3
    go_wp2
    refine bodyPost_ret (results_ct rfl _ _ S 47 _ (0, 0) _ rfl (put47 HSS.out _ _ _ _) Try.underlying47 rfl (by kernel_rfl)) rfl ?_
    rw [E.out]
    exact ⟨_, rfl, (DR.zero _ _).put47 HSS.out _ _ _ _, below_put47 BT.out hTS _ _ _ _, KT.out.put47 hwS _ _ _ _⟩
  | true =>
    have d0 : w1.cell? ⟨D, 0, none⟩ = some (.slice A0 d.ino.length c0) := (blk_cell HK.out 0).trans rfl
    have d1 : w1.cell? ⟨D, 1, none⟩ = some (.slice A1 d.dir.length c1) := (blk_cell HK.out 1).trans rfl
    have d2 : w1.cell? ⟨D, 2, none⟩ = some (.slice A2 d.dur.length c2) := (blk_cell HK.out 2).trans rfl
    have d3 : w1.cell? ⟨D, 3, none⟩ = some (.slice A3 d.ops.length c3) := (blk_cell HK.out 3).trans rfl
    have o0 : w1.cell? ⟨O, 0, none⟩ = some (.int .i64 k) := (blk_cell HO.out 0).trans rfl
    have o1 : w1.cell? ⟨O, 1, none⟩ = some (.string nm) := (blk_cell HO.out 1).trans rfl
    have o2 : w1.cell? ⟨O, 2, none⟩ = some (.string tt) := (blk_cell HO.out 2).trans rfl
    have o3 : w1.cell? ⟨O, 3, none⟩ = some (.string dat) := (blk_cell HO.out 3).trans rfl
    by_cases hk6 : k = 6
    · have E := Aside0.mk (show res = (Dk.settle d, 0) from by rw [RES.out]; unfold Dk.app; rw [← FB.out]; simp [hk6])
      go_wp2_with fail
      refine (settle_calls T _ d w1 DW.out hTw ⟨by have := HM.out.1; omega, by omega, by omega, by omega⟩ HI.out).mono ?_
      rintro e w2 ⟨v, rfl, h1, h2, h3⟩
      obtain ⟨B0, e0, B1, e1, B2, e2, B3, e3, rfl⟩ := h1.slices
      have H1 := Aside0.mk h1
      have H2 := Aside0.mk (BT.out.trans h2)
      have H3 := Aside0.mk (KT.out.trans (h3.mono (by simp)))
      have HS2 := Aside0.mk (h3 _ _ _ HSS.out (by decide))
      clear h1 h2 h3 d0 d1 d2 d3 o0 o1 o2 o3
      have s0 := (blk_cell HS2.out 0).trans rfl
      have s1 := (blk_cell HS2.out 1).trans rfl
      have s2 := (blk_cell HS2.out 2).trans rfl
      have s3 := (blk_cell HS2.out 3).trans rfl
      have f0 := blk_frozen HS2.out 0
      have f1 := blk_frozen HS2.out 1
      have f2 := blk_frozen HS2.out 2
      have f3 := blk_frozen HS2.out 3
      go_wp2
      refine bodyPost_ret (results_ct rfl _ _ S 47 _ (0, 0) _ rfl (put47 HS2.out _ _ _ _) Try.underlying47 rfl (by kernel_rfl)) rfl ?_
      rw [E.out]
      exact ⟨_, rfl, H1.out.put47 HS2.out _ _ _ _, below_put47 H2.out hTS _ _ _ _, H3.out.put47 hwS _ _ _ _⟩
    · by_cases hk23 : k = 2 ∨ k = 3
      · obtain ⟨bh, hbh⟩ : ∃ bh, bh = has d.dir nm := ⟨_, rfl⟩
        obtain ⟨p, hp⟩ : ∃ p, p = pos d.dir nm := ⟨_, rfl⟩
        have FC := Aside0.mk (fun w' hC => find_calls A1 c1 d.dir nm HS.out w' hC l1)
        rw [← hbh, ← hp] at FC
        have BH := Aside0.mk hbh
        have PP := Aside0.mk hp
        have RD : Aside0 (Kd.C k69 w1 A1 d.dir.length d.dir) := ⟨by
          obtain ⟨_, _, _, _, _, _, _, _, e, _, h, _⟩ := DW.out.reads
          injection e with e
          injection e with e
          simp only [List.cons.injEq, Value.slice.injEq] at e
          rw [e.2.1.1]; exact h.1⟩
        clear hbh hp
        cases bh with
        | false =>
          have E := Aside0.mk (show res = (Dk.E0, 11) from by rw [RES.out]; unfold Dk.app; rw [← FB.out]; simp [hk6, hk23, ← BH.out])
          rcases hk23 with rfl | rfl
          all_goals go_wp2_with fail
          all_goals refine (FC.out _ RD.out).mono ?_
          all_goals
            rintro e w2 ⟨rfl, hb2⟩
            have HS2 := Aside0.mk (blk_below HSS.out hb2)
            have H2 := Aside0.mk (below_then BT.out hTw hb2)
            have H3 := Aside0.mk (KT.out.below hb2)
            clear hb2 d0 d1 d2 d3 o0 o1 o2 o3
            have s0 := (blk_cell HS2.out 0).trans rfl
            have s1 := (blk_cell HS2.out 1).trans rfl
            have s2 := (blk_cell HS2.out 2).trans rfl
            have s3 := (blk_cell HS2.out 3).trans rfl
            have f0 := blk_frozen HS2.out 0
            have f1 := blk_frozen HS2.out 1
            have f2 := blk_frozen HS2.out 2
            have f3 := blk_frozen HS2.out 3
            go_wp2
            refine bodyPost_ret (results_ct rfl _ _ S 47 _ (0, 0) _ rfl (put47 HS2.out _ _ _ _) Try.underlying47 rfl (by kernel_rfl)) rfl ?_
            rw [E.out]
            exact ⟨_, rfl, (DR.zero _ _).put47 HS2.out _ _ _ _, below_put47 H2.out hTS _ _ _ _, H3.out.put47 hwS _ _ _ _⟩
        | true =>
          have hpl : p < d.dir.length := by
            have := Dk.has_pos HS.out nm
            rw [← BH.out, ← PP.out] at this
            simp at this
            exact this.1
          obtain ⟨ad, ea, hx0, hx1⟩ := at_T69 RD.out (p : Int) (by omega) (by omega)
          subst ea
          obtain ⟨y, hy⟩ : ∃ y, y = rd_T69 d.dir (p : Int) := ⟨_, rfl⟩
          rw [← hy] at hx0 hx1
          have hyg : d.dir.getD p z69 = y := by rw [hy]; rfl
          obtain ⟨hy0, hy1⟩ := HI.out y (by rw [← hyg, Dk.getD_eq hpl]; exact List.getElem_mem hpl)
          obtain ⟨j, hj⟩ : ∃ j : Nat, y.f1 = (j : Int) := ⟨y.f1.toNat, (Int.toNat_of_nonneg hy0).symm⟩
          have hjn : j < d.ino.length := by omega
          have EJ := Aside0.mk (show ent d nm = j from by unfold Dk.ent; rw [← PP.out, hyg, hj]; rfl)
          rw [hj] at hx1
          replace hx1 : w1.cell? ⟨(ad.add (p * 2)).block, (ad.add (p * 2)).off + 1, none⟩ = some (.int .i64 (j : Nat)) := hx1
          obtain ⟨q0, -, -, -⟩ : Kd.R k67 67 w1 T (fun _ => True) (.slice A0 d.ino.length c0) d.ino ∧ True ∧ True ∧ True := by
            obtain ⟨_, _, _, _, e, r, _⟩ := DW.out
            injection e with e
            injection e with e
            simp only [List.cons.injEq] at e
            rw [e.1]; exact ⟨r, trivial, trivial, trivial⟩
          obtain ⟨g0, cur, e0, hh⟩ := R67_block q0 (by omega)
          subst e0
          obtain ⟨x0, x1⟩ := R67_cells q0 j hjn
          obtain ⟨x, hx⟩ : ∃ x, x = d.ino[j] := ⟨_, rfl⟩
          have hxs := HZ.out x (hx ▸ List.getElem_mem hjn)
          rw [← hx] at x0 x1
          have X := Aside0.mk (show d.ino.getD j z67 = x from by rw [getD67 hjn, hx])
          have XI := Aside0.mk hx
          have Q0 := Aside0.mk q0
          have HH := Aside0.mk hh
          have hp0 : (0 : Int) ≤ (p : Int) := by omega
          have hp1 : (p : Int) < (d.dir.length : Int) := by omega
          have hj0 : (0 : Int) ≤ (j : Int) := by omega
          have hj1 : (j : Int) < (d.ino.length : Int) := by omega
          have hgD : g0 ≠ D := blk_ne hh HK.out (by decide)
          have hgO : g0 ≠ O := blk_ne hh HO.out (by decide)
          have hgS : g0 ≠ S := blk_ne hh HSS.out (by decide)
          have hTg : T ≤ g0 := own_base (R67_own q0) g0 rfl
          clear q0 hh hy hyg hy0 hy1 hj hx
          have tail := fun (w2 : World) (hb2 : Below w1.heap.size w1 w2) => And.intro (blk_below HK.out hb2) (And.intro (blk_below HO.out hb2) (And.intro (blk_below HSS.out hb2) (And.intro (Kd.R_below Q0.out hb2) (And.intro (blk_below HH.out hb2) (And.intro (DW.out.below hb2) (And.intro (below_then BT.out hTw hb2) (And.intro (KT.out.below hb2) (And.intro (pw_cell_below hb2 hx1) (And.intro (pw_cell_below hb2 x0) (pw_cell_below hb2 x1))))))))))
          have TL := Aside0.mk tail
          clear tail
          rcases hk23 with rfl | rfl
          all_goals
            go_wp2_with fail
            refine (FC.out _ RD.out).mono ?_
            rintro e w2 ⟨rfl, hb2⟩
            clear d0 d1 d2 d3 o0 o1 o2 o3 x0 x1 hx0 hx1
            have hbw := hb2
            clear hb2 HK HO HSS Q0 HH DW BT KT RD FC
            obtain ⟨hK, hO, hS, q0, hh, dw, bt, kt, y1, x0, x1⟩ := TL.out w2 hbw
            have d0 : (w2).cell? ⟨D, 0, none⟩ = some (.slice (some ⟨g0, 0, none⟩) d.ino.length c0) := (blk_cell hK 0).trans rfl
            have d1 : (w2).cell? ⟨D, 1, none⟩ = some (.slice (some ad) d.dir.length c1) := (blk_cell hK 1).trans rfl
            have o0 := (blk_cell hO 0).trans rfl
            have o3 := (blk_cell hO 3).trans rfl
            have g0f := blk_frozen hh (j * 2)
            have g1f := blk_frozen hh (j * 2 + 1)
            have K2 := Aside0.mk hK
            have O2 := Aside0.mk hO
            have S2 := Aside0.mk hS
            have Q2 := Aside0.mk q0
            have G2 := Aside0.mk hh
            have D2 := Aside0.mk dw
            have B2 := Aside0.mk bt
            have T2 := Aside0.mk kt
            have HBW := Aside0.mk hbw
            clear hK hO hS q0 hh dw bt kt hbw
            go_wp2_with fail
            go_quiet (fail)
            have hbw := below_step HBW.out (pw_below_drewN (Below.refl w2.heap.size w2) nq)
            generalize w2.drewN nq = W3 at hbw ⊢
            clear HBW
            clear d0 d1 o0 o3 g0f g1f K2 O2 S2 Q2 G2 D2 B2 T2 x0 x1 y1
            obtain ⟨hK, hO, hS, q0, hh, dw, bt, kt, y1, x0, x1⟩ := TL.out W3 hbw
            have d0 : (W3).cell? ⟨D, 0, none⟩ = some (.slice (some ⟨g0, 0, none⟩) d.ino.length c0) := (blk_cell hK 0).trans rfl
            have d1 : (W3).cell? ⟨D, 1, none⟩ = some (.slice (some ad) d.dir.length c1) := (blk_cell hK 1).trans rfl
            have o0 := (blk_cell hO 0).trans rfl
            have o3 := (blk_cell hO 3).trans rfl
            have g0f := blk_frozen hh (j * 2)
            have g1f := blk_frozen hh (j * 2 + 1)
            have K2 := Aside0.mk hK
            have O2 := Aside0.mk hO
            have S2 := Aside0.mk hS
            have Q2 := Aside0.mk q0
            have G2 := Aside0.mk hh
            have D2 := Aside0.mk dw
            have B2 := Aside0.mk bt
            have T2 := Aside0.mk kt
            have HBW := Aside0.mk hbw
            clear hK hO hS q0 hh dw bt kt hbw
          · by_cases hbig : 1048576 < x.f0.size + dat.size
            · have hbi : (1048576 : Int) < (x.f0.size : Int) + (dat.size : Int) := by omega
              go_wp2_with fail
              go_quiet (fail)
              have hbw := below_step HBW.out (pw_below_drewN (Below.refl W3.heap.size W3) nq)
              generalize W3.drewN nq = W4 at hbw ⊢
              clear HBW
              clear d0 d1 o0 o3 g0f g1f K2 O2 S2 Q2 G2 D2 B2 T2 x0 x1 y1
              obtain ⟨hK, hO, hS, q0, hh, dw, bt, kt, y1, x0, x1⟩ := TL.out W4 hbw
              have d0 : (W4).cell? ⟨D, 0, none⟩ = some (.slice (some ⟨g0, 0, none⟩) d.ino.length c0) := (blk_cell hK 0).trans rfl
              have d1 : (W4).cell? ⟨D, 1, none⟩ = some (.slice (some ad) d.dir.length c1) := (blk_cell hK 1).trans rfl
              have o0 := (blk_cell hO 0).trans rfl
              have o3 := (blk_cell hO 3).trans rfl
              have g0f := blk_frozen hh (j * 2)
              have g1f := blk_frozen hh (j * 2 + 1)
              have K2 := Aside0.mk hK
              have O2 := Aside0.mk hO
              have S2 := Aside0.mk hS
              have Q2 := Aside0.mk q0
              have G2 := Aside0.mk hh
              have D2 := Aside0.mk dw
              have B2 := Aside0.mk bt
              have T2 := Aside0.mk kt
              have HBW := Aside0.mk hbw
              clear hK hO hS q0 hh dw bt kt hbw
              have E := Aside0.mk (show res = (Dk.E0, 21) from by rw [RES.out]; simp only [Dk.app, EJ.out, X.out]; rw [← FB.out]; simp [← BH.out, hbig])
              clear d0 d1 o0 o3 g0f g1f x0 x1 y1
              have s0 := (blk_cell S2.out 0).trans rfl
              have s1 := (blk_cell S2.out 1).trans rfl
              have s2 := (blk_cell S2.out 2).trans rfl
              have s3 := (blk_cell S2.out 3).trans rfl
              have f0 := blk_frozen S2.out 0
              have f1 := blk_frozen S2.out 1
              have f2 := blk_frozen S2.out 2
              have f3 := blk_frozen S2.out 3
              go_wp2
              refine bodyPost_ret (results_ct rfl _ _ S 47 _ (0, 0) _ rfl (put47 S2.out _ _ _ _) Try.underlying47 rfl (by kernel_rfl)) rfl ?_
              rw [E.out]
              exact ⟨_, rfl, (DR.zero _ _).put47 S2.out _ _ _ _, below_put47 B2.out hTS _ _ _ _, T2.out.put47 hwS _ _ _ _⟩
            · have hbi : ¬ (1048576 : Int) < (x.f0.size : Int) + (dat.size : Int) := by omega
              go_wp2_with fail
              go_quiet (fail)
              have hbw := below_step HBW.out (pw_below_drewN (Below.refl W3.heap.size W3) nq)
              generalize W3.drewN nq = W5 at hbw ⊢
              clear HBW
              clear d0 d1 o0 o3 g0f g1f K2 O2 S2 Q2 G2 D2 B2 T2 x0 x1 y1
              obtain ⟨hK, hO, hS, q0, hh, dw, bt, kt, y1, x0, x1⟩ := TL.out W5 hbw
              have d0 : (W5).cell? ⟨D, 0, none⟩ = some (.slice (some ⟨g0, 0, none⟩) d.ino.length c0) := (blk_cell hK 0).trans rfl
              have d1 : (W5).cell? ⟨D, 1, none⟩ = some (.slice (some ad) d.dir.length c1) := (blk_cell hK 1).trans rfl
              have o0 := (blk_cell hO 0).trans rfl
              have o3 := (blk_cell hO 3).trans rfl
              have g0f := blk_frozen hh (j * 2)
              have g1f := blk_frozen hh (j * 2 + 1)
              have K2 := Aside0.mk hK
              have O2 := Aside0.mk hO
              have S2 := Aside0.mk hS
              have Q2 := Aside0.mk q0
              have G2 := Aside0.mk hh
              have D2 := Aside0.mk dw
              have B2 := Aside0.mk bt
              have T2 := Aside0.mk kt
              have HBW := Aside0.mk hbw
              clear hK hO hS q0 hh dw bt kt hbw
              go_upto_region 17 with fail
              have hz1 : x.f0.size + dat.size ≤ 9223372036854775807 := by omega
              have hadd := fun (w : World) => run_string_add_sum (P := Try.prog) w x.f0 dat hz1
              go_still_tail 9, (by kernel_rfl)
              change wpList _ _ _ _ _ W5.drew
              have hbw := below_step HBW.out (below_drew (Below.refl W5.heap.size W5))
              generalize W5.drew = W3 at hbw ⊢
              clear HBW d0 d1 o0 o3 g0f g1f K2 O2 S2 Q2 G2 D2 B2 T2 x0 x1 y1
              obtain ⟨hK, hO, hS, q0, hh, dw, bt, kt, y1, x0, x1⟩ := TL.out W3 hbw
              have d0 : W3.cell? ⟨D, 0, none⟩ = some (.slice (some ⟨g0, 0, none⟩) d.ino.length c0) := (blk_cell hK 0).trans rfl
              have d1 : W3.cell? ⟨D, 1, none⟩ = some (.slice (some ad) d.dir.length c1) := (blk_cell hK 1).trans rfl
              have o0 := (blk_cell hO 0).trans rfl
              have o3 := (blk_cell hO 3).trans rfl
              have g0f := blk_frozen hh (j * 2)
              have g1f := blk_frozen hh (j * 2 + 1)
              have K2 := Aside0.mk hK
              have S2 := Aside0.mk hS
              have G2 := Aside0.mk hh
              have D2 := Aside0.mk dw
              have B2 := Aside0.mk bt
              have T2 := Aside0.mk kt
              clear hK hO hS q0 hh dw bt kt hbw
              have E := Aside0.mk (show res = (⟨d.ino.set j ⟨x.f0 ++ dat, x.f1⟩, d.dir, d.dur, d.ops⟩, 0) from by rw [RES.out]; simp only [Dk.app, EJ.out, X.out]; rw [← FB.out]; simp [← BH.out, hbig])
              go_upto_region 18 with fail
              have D3 := Aside0.mk (D2.out.ino (l' := d.ino.set j ⟨x.f0 ++ dat, x.f1⟩) G2.out rfl (by simp) (j * 2) (.string (x.f0 ++ dat)) (by rw [cs67_set0 d.ino j _ hjn, ← XI.out]))
              have K3 := Aside0.mk (blk_far K2.out (p := ⟨g0, j * 2, none⟩) (Ne.symm hgD) (.string (x.f0 ++ dat)))
              have HS3 := Aside0.mk (blk_far S2.out (p := ⟨g0, j * 2, none⟩) (Ne.symm hgS) (.string (x.f0 ++ dat)))
              have B3 := Aside0.mk (B2.out.setCell (p := ⟨g0, j * 2, none⟩) hTg (.string (x.f0 ++ dat)))
              have T3 := Aside0.mk (T2.out.set G2.out (by decide) (j * 2) (.string (x.f0 ++ dat)))
              generalize W3.setCell ⟨g0, j * 2, none⟩ (.string (x.f0 ++ dat)) = W4 at D3 K3 HS3 B3 T3 ⊢
              clear d0 d1 o0 o3 y1 x0 x1 g0f g1f
              have d0 := (blk_cell K3.out 0).trans rfl
              have d1 := (blk_cell K3.out 1).trans rfl
              have d2 := (blk_cell K3.out 2).trans rfl
              have d3 := (blk_cell K3.out 3).trans rfl
              have s0 := (blk_cell HS3.out 0).trans rfl
              have s1 := (blk_cell HS3.out 1).trans rfl
              have s2 := (blk_cell HS3.out 2).trans rfl
              have s3 := (blk_cell HS3.out 3).trans rfl
              have f0 := blk_frozen HS3.out 0
              have f1 := blk_frozen HS3.out 1
              have f2 := blk_frozen HS3.out 2
              have f3 := blk_frozen HS3.out 3
              go_wp2
              refine bodyPost_ret (results_ct rfl _ _ S 47 _ (0, 0) _ rfl (put47 HS3.out _ _ _ _) Try.underlying47 rfl (by kernel_rfl)) rfl ?_
              rw [E.out]
              exact ⟨_, rfl, D3.out.put47 HS3.out _ _ _ _, below_put47 B3.out hTS _ _ _ _, T3.out.put47 hwS _ _ _ _⟩
          · have E := Aside0.mk (show res = (⟨d.ino.set j ⟨x.f0, (x.f0.size : Nat)⟩, d.dir, d.dur, d.ops⟩, 0) from by rw [RES.out]; simp only [Dk.app, EJ.out, X.out]; rw [← FB.out]; simp [← BH.out])
            go_upto_region 14 with fail
            have D3 := Aside0.mk (D2.out.ino (l' := d.ino.set j ⟨x.f0, (x.f0.size : Nat)⟩) G2.out rfl (by simp) (j * 2 + 1) (.int .i64 (x.f0.size : Nat)) (by rw [cs67_set1 d.ino j _ hjn, ← XI.out]))
            have K3 := Aside0.mk (blk_far K2.out (p := ⟨g0, j * 2 + 1, none⟩) (Ne.symm hgD) (.int .i64 (x.f0.size : Nat)))
            have HS3 := Aside0.mk (blk_far S2.out (p := ⟨g0, j * 2 + 1, none⟩) (Ne.symm hgS) (.int .i64 (x.f0.size : Nat)))
            have B3 := Aside0.mk (B2.out.setCell (p := ⟨g0, j * 2 + 1, none⟩) hTg (.int .i64 (x.f0.size : Nat)))
            have T3 := Aside0.mk (T2.out.set G2.out (by decide) (j * 2 + 1) (.int .i64 (x.f0.size : Nat)))
            generalize W3.setCell ⟨g0, j * 2 + 1, none⟩ (.int .i64 (x.f0.size : Nat)) = W4 at D3 K3 HS3 B3 T3 ⊢
            clear d0 d1 o0 o3 y1 x0 x1 g0f g1f
            have d0 := (blk_cell K3.out 0).trans rfl
            have d1 := (blk_cell K3.out 1).trans rfl
            have d2 := (blk_cell K3.out 2).trans rfl
            have d3 := (blk_cell K3.out 3).trans rfl
            have s0 := (blk_cell HS3.out 0).trans rfl
            have s1 := (blk_cell HS3.out 1).trans rfl
            have s2 := (blk_cell HS3.out 2).trans rfl
            have s3 := (blk_cell HS3.out 3).trans rfl
            have f0 := blk_frozen HS3.out 0
            have f1 := blk_frozen HS3.out 1
            have f2 := blk_frozen HS3.out 2
            have f3 := blk_frozen HS3.out 3
            go_wp2
            refine bodyPost_ret (results_ct rfl _ _ S 47 _ (0, 0) _ rfl (put47 HS3.out _ _ _ _) Try.underlying47 rfl (by kernel_rfl)) rfl ?_
            rw [E.out]
            exact ⟨_, rfl, D3.out.put47 HS3.out _ _ _ _, below_put47 B3.out hTS _ _ _ _, T3.out.put47 hwS _ _ _ _⟩
      · have hk2 : ¬ k = 2 := fun e => hk23 (.inl e)
        have hk3 : ¬ k = 3 := fun e => hk23 (.inr e)
        obtain ⟨c, hc⟩ : ∃ c, c = chg d.dir ⟨k, nm, tt, dat⟩ (d.ino.length : Nat) := ⟨_, rfl⟩
        have R1 := Aside0.mk DW.out.rows.2.1
        have CC := Aside0.mk (change_calls T _ (.slice A1 d.dir.length c1) d.dir ⟨k, nm, tt, dat⟩ (d.ino.length : Nat) w1 HS.out (by omega) hTw R1.out)
        rw [← hc] at CC
        obtain ⟨c1', ce⟩ := c
        have HC := Aside0.mk hc
        clear hc hk23
        go_wp2_with fail
        refine CC.out.mono ?_
        rintro e w2 ⟨v', rfl, ho⟩
        have K2 := Aside0.mk (ho.block HK.out (Kd.R_ne R1.out HK.out (by decide)))
        have O2 := Aside0.mk (ho.block HO.out (Kd.R_ne R1.out HO.out (by decide)))
        have S2 := Aside0.mk (ho.block HSS.out (Kd.R_ne R1.out HSS.out (by decide)))
        have D2 := Aside0.mk (DW.out.dir' ho)
        have B2 := Aside0.mk (pw_below_grown BT.out _ hTw ho.grown (fun k hk => own_base (R69_own R1.out) k hk))
        have T2 := Aside0.mk (KT.out.grown R1.out (by decide) ho.grown)
        have hTw2 : T ≤ w2.heap.size := Nat.le_trans hTw ho.grown.size
        obtain ⟨A1', e1', hv⟩ := Kd.R_slice ho.row
        subst hv
        clear ho d0 d1 d2 d3 o0 o1 o2 o3 CC R1 BT KT DW HK HO HSS
        by_cases hce : ce = 0
        · subst hce
          have E := Aside0.mk (show res = (⟨if k = 1 then d.ino ++ [z67] else d.ino, c1', d.dur, d.ops ++ [⟨k, nm, tt, dat⟩]⟩, 0) from by rw [RES.out]; simp only [Dk.app]; rw [← FB.out, ← HC.out]; simp [hk2, hk3, hk6])
          have k1 := (blk_cell K2.out 1).trans rfl
          have k1f := blk_frozen K2.out 1
          have o0 := (blk_cell O2.out 0).trans rfl
          by_cases hk1 : k = 1
          · subst hk1
            go_upto_region 24 with fail
            have K6 := Aside0.mk (blk_put K2.out 1 (.slice A1' c1'.length e1') rfl)
            have O6 := Aside0.mk (blk_far O2.out (p := ⟨D, 1, none⟩) (Ne.symm hDO) (.slice A1' c1'.length e1'))
            have S6 := Aside0.mk (blk_far S2.out (p := ⟨D, 1, none⟩) (Ne.symm hDS) (.slice A1' c1'.length e1'))
            have D6 := Aside0.mk (D2.out.set47 K2.out 1 (.slice A1' c1'.length e1'))
            have B6 := Aside0.mk (B2.out.setCell (p := ⟨D, 1, none⟩) hTD (.slice A1' c1'.length e1'))
            have T6 := Aside0.mk (T2.out.set_new hwD 1 (.slice A1' c1'.length e1'))
            have hTw6 : T ≤ (w2.setCell ⟨D, 1, none⟩ (.slice A1' c1'.length e1')).heap.size := by simpa [World.setCell] using hTw2
            generalize w2.setCell ⟨D, 1, none⟩ (.slice A1' c1'.length e1') = W6 at K6 O6 S6 D6 B6 T6 hTw6 ⊢
            clear k1 k1f o0 K2 O2 S2 D2 B2 T2
            have k0 := (blk_cell K6.out 0).trans rfl
            have bn := (Below.refl W6.heap.size W6).alloc (Nat.le_refl _) (.cells #[.string ⟨#[]⟩, .int .i64 0] 67)
            have QC := Aside0.mk (C67_one (x := z67) (blk_new W6 (.cells #[.string ⟨#[]⟩, .int .i64 0] 67)))
            have QR := Aside0.mk (show Kd.R k67 67 _ T (fun _ => True) (.slice A0 d.ino.length c0) d.ino from Kd.R_below D6.out.rows.1 bn)
            have QT := Aside0.mk (Nat.le_trans hTw6 bn.size)
            have QBB : Aside0 (Below T w (W6.alloc (.cells #[.string ⟨#[]⟩, .int .i64 0] 67))) := ⟨B6.out.alloc hTw6 _⟩
            have BN := Aside0.mk bn
            clear bn
            go_upto_region 25 with (at_builtin; go_loud (refine Kd.R_append_rows k67 (Rr := k67.K _) (w0 := w) T rfl _ _ 43 67 (.agg #[.string ⟨#[]⟩, .int .i64 0]) 24 rfl Try.underlying43 info67 rfl (by decide) (by decide) (.slice A0 d.ino.length c0) d.ino [z67] (some ⟨W6.heap.size, 0, none⟩) 1 1 (fun _ => True) (fun _ => False) rfl rfl QR.out QC.out ?q2 ?q3 ?q4 QBB.out QT.out ?q7 ?_); (case q2 => intro y cs h; obtain rfl := k67_open h; exact k67_mkM _ _ _ _); (case q3 => intro k h; exact h.elim); (case q4 => intro k hk; trivial); (case q7 => omega); intro v1 w7 h1 h2 h3 h4; obtain ⟨A0', e0', hv0⟩ := Kd.R_slice h1; subst hv0; have H2 := Aside0.mk h2; have K7 := Aside0.mk (blk_grown (blk_below K6.out BN.out) h3 (Kd.R_ne QR.out (blk_below K6.out BN.out) (by decide))); have O7 := Aside0.mk (blk_grown (blk_below O6.out BN.out) h3 (Kd.R_ne QR.out (blk_below O6.out BN.out) (by decide))); have S7 := Aside0.mk (blk_grown (blk_below S6.out BN.out) h3 (Kd.R_ne QR.out (blk_below S6.out BN.out) (by decide))); have D7 := Aside0.mk ((D6.out.below BN.out).ino' h1 h3); have T7 := Aside0.mk ((T6.out.below BN.out).grown QR.out (by decide) h3); have t0 := (blk_cell K7.out 0).trans rfl; have t0f := blk_frozen K7.out 0; have Z7 := Aside0.mk (Nat.le_trans QT.out h3.size); clear h1 h2 h3 h4 k0)
            have hl7 : (d.ino ++ [z67]).length = d.ino.length + 1 := by simp
            rw [hl7] at D7
            have K3 := Aside0.mk (blk_put K7.out 0 (.slice A0' (d.ino.length + 1) e0') rfl)
            have O3 := Aside0.mk (blk_far O7.out (p := ⟨D, 0, none⟩) (Ne.symm hDO) (.slice A0' (d.ino.length + 1) e0'))
            have S3 := Aside0.mk (blk_far S7.out (p := ⟨D, 0, none⟩) (Ne.symm hDS) (.slice A0' (d.ino.length + 1) e0'))
            have D3 := Aside0.mk (D7.out.set47 K7.out 0 (.slice A0' (d.ino.length + 1) e0'))
            have B3 := Aside0.mk (H2.out.setCell (p := ⟨D, 0, none⟩) hTD (.slice A0' (d.ino.length + 1) e0'))
            have T3 := Aside0.mk (T7.out.set_new hwD 0 (.slice A0' (d.ino.length + 1) e0'))
            have hTw3 : T ≤ (w7.setCell ⟨D, 0, none⟩ (.slice A0' (d.ino.length + 1) e0')).heap.size := by have := Z7.out; simpa [World.setCell] using this
            generalize w7.setCell ⟨D, 0, none⟩ (.slice A0' (d.ino.length + 1) e0') = W3 at K3 O3 S3 D3 B3 T3 hTw3 ⊢
            clear t0 t0f K7 O7 S7 D7 H2 T7 K6 O6 S6 D6 B6 T6 QC QR QT QBB BN hl7 Z7
            have k3 := (blk_cell K3.out 3).trans rfl
            have o0 := (blk_cell O3.out 0).trans rfl
            have o1 := (blk_cell O3.out 1).trans rfl
            have o2 := (blk_cell O3.out 2).trans rfl
            have o3 := (blk_cell O3.out 3).trans rfl
            have bn := (Below.refl W3.heap.size W3).alloc (Nat.le_refl _) (.cells #[.int .i64 1, .string nm, .string tt, .string dat] 49)
            have QC := Aside0.mk (C49_one (x := ⟨1, nm, tt, dat⟩) (blk_new W3 (.cells #[.int .i64 1, .string nm, .string tt, .string dat] 49)))
            have QR := Aside0.mk (show Kd.R k49 49 _ T (fun _ => True) (.slice A3 d.ops.length c3) d.ops from Kd.R_below D3.out.rows.2.2.2 bn)
            have QT := Aside0.mk (Nat.le_trans hTw3 bn.size)
            have QBB : Aside0 (Below T w (W3.alloc (.cells #[.int .i64 1, .string nm, .string tt, .string dat] 49))) := ⟨B3.out.alloc hTw3 _⟩
            have BN := Aside0.mk bn
            clear bn
            go_upto_region 26 with (at_builtin; go_loud (refine Kd.R_append_rows k49 (Rr := k49.K _) (w0 := w) T rfl _ _ 45 49 (.agg #[.int .i64 0, .string ⟨#[]⟩, .string ⟨#[]⟩, .string ⟨#[]⟩]) 56 rfl Try.underlying45 info49 rfl (by decide) (by decide) (.slice A3 d.ops.length c3) d.ops [⟨1, nm, tt, dat⟩] (some ⟨W3.heap.size, 0, none⟩) 1 1 (fun _ => True) (fun _ => False) rfl rfl QR.out QC.out ?q2 ?q3 ?q4 QBB.out QT.out ?q7 ?_); (case q2 => intro y cs h; obtain rfl := k49_open h; exact k49_mkM _ _ _ _); (case q3 => intro k h; exact h.elim); (case q4 => intro k hk; trivial); (case q7 => omega); intro v1 w4 h1 h2 h3 h4; obtain ⟨A3', e3', hv3⟩ := Kd.R_slice h1; subst hv3; have H1 := Aside0.mk h1; have H2 := Aside0.mk h2; have H3 := Aside0.mk h3; have K4 := Aside0.mk (blk_grown (blk_below K3.out BN.out) h3 (Kd.R_ne QR.out (blk_below K3.out BN.out) (by decide))); have S4 := Aside0.mk (blk_grown (blk_below S3.out BN.out) h3 (Kd.R_ne QR.out (blk_below S3.out BN.out) (by decide))); have D4 := Aside0.mk ((D3.out.below BN.out).ops' h1 h3); have T4 := Aside0.mk ((T3.out.below BN.out).grown QR.out (by decide) h3); have t3 := (blk_cell K4.out 3).trans rfl; have t3f := blk_frozen K4.out 3; clear h1 h2 h3 h4 k3 o0 o1 o2 o3)
            have hl4 : (d.ops ++ [(⟨1, nm, tt, dat⟩ : S49)]).length = d.ops.length + 1 := by simp
            rw [hl4] at D4
            have K5 := Aside0.mk (blk_put K4.out 3 (.slice A3' (d.ops.length + 1) e3') rfl)
            have S5 := Aside0.mk (blk_far S4.out (p := ⟨D, 3, none⟩) (Ne.symm hDS) (.slice A3' (d.ops.length + 1) e3'))
            have D5 := Aside0.mk (D4.out.set47 K4.out 3 (.slice A3' (d.ops.length + 1) e3'))
            have B5 := Aside0.mk (H2.out.setCell (p := ⟨D, 3, none⟩) hTD (.slice A3' (d.ops.length + 1) e3'))
            have T5 := Aside0.mk (T4.out.set_new hwD 3 (.slice A3' (d.ops.length + 1) e3'))
            generalize w4.setCell ⟨D, 3, none⟩ (.slice A3' (d.ops.length + 1) e3') = W5 at K5 S5 D5 B5 T5 ⊢
            clear t3 t3f K4 S4 D4 H1 H2 H3 T4 K3 O3 S3 D3 B3 T3 QC QR QT QBB BN hl4
            have k0 := (blk_cell K5.out 0).trans rfl
            have k1 := (blk_cell K5.out 1).trans rfl
            have k2 := (blk_cell K5.out 2).trans rfl
            have k3 := (blk_cell K5.out 3).trans rfl
            have s0 := (blk_cell S5.out 0).trans rfl
            have s1 := (blk_cell S5.out 1).trans rfl
            have s2 := (blk_cell S5.out 2).trans rfl
            have s3 := (blk_cell S5.out 3).trans rfl
            have f0 := blk_frozen S5.out 0
            have f1 := blk_frozen S5.out 1
            have f2 := blk_frozen S5.out 2
            have f3 := blk_frozen S5.out 3
            go_wp2
            refine bodyPost_ret (results_ct rfl _ _ S 47 _ (0, 0) _ rfl (put47 S5.out _ _ _ _) Try.underlying47 rfl (by kernel_rfl)) rfl ?_
            rw [E.out]
            simp only [if_true]
            exact ⟨_, rfl, D5.out.put47 S5.out _ _ _ _, below_put47 B5.out hTS _ _ _ _, T5.out.put47 hwS _ _ _ _⟩
          · go_upto_region 25 with fail
            have K3 := Aside0.mk (blk_put K2.out 1 (.slice A1' c1'.length e1') rfl)
            have O3 := Aside0.mk (blk_far O2.out (p := ⟨D, 1, none⟩) (Ne.symm hDO) (.slice A1' c1'.length e1'))
            have S3 := Aside0.mk (blk_far S2.out (p := ⟨D, 1, none⟩) (Ne.symm hDS) (.slice A1' c1'.length e1'))
            have D3 := Aside0.mk (D2.out.set47 K2.out 1 (.slice A1' c1'.length e1'))
            have B3 := Aside0.mk (B2.out.setCell (p := ⟨D, 1, none⟩) hTD (.slice A1' c1'.length e1'))
            have T3 := Aside0.mk (T2.out.set_new hwD 1 (.slice A1' c1'.length e1'))
            have hTw3 : T ≤ (w2.setCell ⟨D, 1, none⟩ (.slice A1' c1'.length e1')).heap.size := by simpa [World.setCell] using hTw2
            generalize w2.setCell ⟨D, 1, none⟩ (.slice A1' c1'.length e1') = W3 at K3 O3 S3 D3 B3 T3 hTw3 ⊢
            clear k1 k1f o0 K2 O2 S2 D2 B2 T2
            have k3 := (blk_cell K3.out 3).trans rfl
            have o0 := (blk_cell O3.out 0).trans rfl
            have o1 := (blk_cell O3.out 1).trans rfl
            have o2 := (blk_cell O3.out 2).trans rfl
            have o3 := (blk_cell O3.out 3).trans rfl
            have bn := (Below.refl W3.heap.size W3).alloc (Nat.le_refl _) (.cells #[.int .i64 k, .string nm, .string tt, .string dat] 49)
            have QC := Aside0.mk (C49_one (x := ⟨k, nm, tt, dat⟩) (blk_new W3 (.cells #[.int .i64 k, .string nm, .string tt, .string dat] 49)))
            have QR := Aside0.mk (show Kd.R k49 49 _ T (fun _ => True) (.slice A3 d.ops.length c3) d.ops from Kd.R_below D3.out.rows.2.2.2 bn)
            have QT := Aside0.mk (Nat.le_trans hTw3 bn.size)
            have QBB : Aside0 (Below T w (W3.alloc (.cells #[.int .i64 k, .string nm, .string tt, .string dat] 49))) := ⟨B3.out.alloc hTw3 _⟩
            have BN := Aside0.mk bn
            clear bn
            go_upto_region 26 with (at_builtin; go_loud (refine Kd.R_append_rows k49 (Rr := k49.K _) (w0 := w) T rfl _ _ 45 49 (.agg #[.int .i64 0, .string ⟨#[]⟩, .string ⟨#[]⟩, .string ⟨#[]⟩]) 56 rfl Try.underlying45 info49 rfl (by decide) (by decide) (.slice A3 d.ops.length c3) d.ops [⟨k, nm, tt, dat⟩] (some ⟨W3.heap.size, 0, none⟩) 1 1 (fun _ => True) (fun _ => False) rfl rfl QR.out QC.out ?q2 ?q3 ?q4 QBB.out QT.out ?q7 ?_); (case q2 => intro y cs h; obtain rfl := k49_open h; exact k49_mkM _ _ _ _); (case q3 => intro k h; exact h.elim); (case q4 => intro k hk; trivial); (case q7 => omega); intro v1 w4 h1 h2 h3 h4; obtain ⟨A3', e3', hv3⟩ := Kd.R_slice h1; subst hv3; have H1 := Aside0.mk h1; have H2 := Aside0.mk h2; have H3 := Aside0.mk h3; have K4 := Aside0.mk (blk_grown (blk_below K3.out BN.out) h3 (Kd.R_ne QR.out (blk_below K3.out BN.out) (by decide))); have S4 := Aside0.mk (blk_grown (blk_below S3.out BN.out) h3 (Kd.R_ne QR.out (blk_below S3.out BN.out) (by decide))); have D4 := Aside0.mk ((D3.out.below BN.out).ops' h1 h3); have T4 := Aside0.mk ((T3.out.below BN.out).grown QR.out (by decide) h3); have t3 := (blk_cell K4.out 3).trans rfl; have t3f := blk_frozen K4.out 3; clear h1 h2 h3 h4 k3 o0 o1 o2 o3)
            have hl4 : (d.ops ++ [(⟨k, nm, tt, dat⟩ : S49)]).length = d.ops.length + 1 := by simp
            rw [hl4] at D4
            have K5 := Aside0.mk (blk_put K4.out 3 (.slice A3' (d.ops.length + 1) e3') rfl)
            have S5 := Aside0.mk (blk_far S4.out (p := ⟨D, 3, none⟩) (Ne.symm hDS) (.slice A3' (d.ops.length + 1) e3'))
            have D5 := Aside0.mk (D4.out.set47 K4.out 3 (.slice A3' (d.ops.length + 1) e3'))
            have B5 := Aside0.mk (H2.out.setCell (p := ⟨D, 3, none⟩) hTD (.slice A3' (d.ops.length + 1) e3'))
            have T5 := Aside0.mk (T4.out.set_new hwD 3 (.slice A3' (d.ops.length + 1) e3'))
            generalize w4.setCell ⟨D, 3, none⟩ (.slice A3' (d.ops.length + 1) e3') = W5 at K5 S5 D5 B5 T5 ⊢
            clear t3 t3f K4 S4 D4 H1 H2 H3 T4 K3 O3 S3 D3 B3 T3 QC QR QT QBB BN hl4
            have k0 := (blk_cell K5.out 0).trans rfl
            have k1 := (blk_cell K5.out 1).trans rfl
            have k2 := (blk_cell K5.out 2).trans rfl
            have k3 := (blk_cell K5.out 3).trans rfl
            have s0 := (blk_cell S5.out 0).trans rfl
            have s1 := (blk_cell S5.out 1).trans rfl
            have s2 := (blk_cell S5.out 2).trans rfl
            have s3 := (blk_cell S5.out 3).trans rfl
            have f0 := blk_frozen S5.out 0
            have f1 := blk_frozen S5.out 1
            have f2 := blk_frozen S5.out 2
            have f3 := blk_frozen S5.out 3
            go_wp2
            refine bodyPost_ret (results_ct rfl _ _ S 47 _ (0, 0) _ rfl (put47 S5.out _ _ _ _) Try.underlying47 rfl (by kernel_rfl)) rfl ?_
            rw [E.out]
            rw [if_neg hk1]
            exact ⟨_, rfl, D5.out.put47 S5.out _ _ _ _, below_put47 B5.out hTS _ _ _ _, T5.out.put47 hwS _ _ _ _⟩
        · have E := Aside0.mk (show res = (Dk.E0, ce) from by rw [RES.out]; simp only [Dk.app]; rw [← FB.out, ← HC.out]; simp [hk2, hk3, hk6, hce])
          have s0 := (blk_cell S2.out 0).trans rfl
          have s1 := (blk_cell S2.out 1).trans rfl
          have s2 := (blk_cell S2.out 2).trans rfl
          have s3 := (blk_cell S2.out 3).trans rfl
          have f0 := blk_frozen S2.out 0
          have f1 := blk_frozen S2.out 1
          have f2 := blk_frozen S2.out 2
          have f3 := blk_frozen S2.out 3
          go_wp2
          refine bodyPost_ret (results_ct rfl _ _ S 47 _ (0, 0) _ rfl (put47 S2.out _ _ _ _) Try.underlying47 rfl (by kernel_rfl)) rfl ?_
          rw [E.out]
          exact ⟨_, rfl, (DR.zero _ _).put47 S2.out _ _ _ _, below_put47 B2.out hTS _ _ _ _, T2.out.put47 hwS _ _ _ _⟩
end Go.Proofs.Ytnaddmkaakdhoaa.J

end
section
namespace Go.Proofs.Ytnaddmkaakdhoaa.Dk
open J
theorem mem_put {l : List S69} {x y : S69} : y ∈ put l x ↔ y = x ∨ y ∈ l := by
  unfold put
  rw [List.mem_append, List.mem_cons]
  constructor
  · rintro (h | rfl | h)
    · exact .inr (List.mem_of_mem_take h)
    · exact .inl rfl
    · exact .inr (List.mem_of_mem_drop h)
  · rintro (rfl | h)
    · exact .inr (.inl rfl)
    · rw [← List.take_append_drop (pos l x.f0) l, List.mem_append] at h
      exact h.imp id .inr
theorem DirOK.mono {l : List S69} {n n' : Nat} (h : DirOK l n) (hn : n ≤ n') : DirOK l n' :=
  ⟨fun x hx => ⟨(h.1 x hx).1, (h.1 x hx).2.1, by have := (h.1 x hx).2.2; omega⟩, h.2⟩
theorem DirOK.inj {l : List S69} {n : Nat} (h : DirOK l n) {x y : S69} (hx : x ∈ l) (hy : y ∈ l) (e : x.f1 = y.f1) : x = y := by
  have hd := h.2.2
  unfold List.Nodup at hd
  rw [List.pairwise_map] at hd
  obtain ⟨i, hi, rfl⟩ := List.getElem_of_mem hx
  obtain ⟨j, hj, rfl⟩ := List.getElem_of_mem hy
  rcases Nat.lt_trichotomy i j with h | h | h
  · exact absurd e (List.pairwise_iff_getElem.1 hd i j hi hj h)
  · subst h; rfl
  · exact absurd e.symm (List.pairwise_iff_getElem.1 hd j i hj hi h)
theorem DirOK.put {l : List S69} {n : Nat} (h : DirOK l n) {x : S69} (hv : vname x.f0 = true) (h0 : 0 ≤ x.f1) (h1 : x.f1 < n) (hh : has l x.f0 = false) (hm : ∀ y ∈ l, y.f1 ≠ x.f1) : DirOK (put l x) n := by
  refine ⟨fun y hy => ?_, Srt.put h.2.1 hh, ?_⟩
  · rcases mem_put.1 hy with rfl | hy
    · exact ⟨hv, h0, h1⟩
    · exact h.1 y hy
  · unfold Dk.put
    have hp : (l.take (pos l x.f0) ++ x :: l.drop (pos l x.f0)).Perm (x :: l) := by
      have := List.perm_middle (a := x) (l₁ := l.take (pos l x.f0)) (l₂ := l.drop (pos l x.f0))
      rwa [List.take_append_drop] at this
    rw [(hp.map (·.f1)).nodup_iff, List.map_cons, List.nodup_cons]
    exact ⟨fun hc => by obtain ⟨y, hy, e⟩ := List.mem_map.1 hc; exact hm y hy e, h.2.2⟩
theorem DirOK.sub {l l' : List S69} {n : Nat} (h : DirOK l n) (hs : l'.Sublist l) : DirOK l' n :=
  ⟨fun x hx => h.1 x (hs.subset hx), List.Pairwise.sublist hs h.2.1, List.Pairwise.sublist (hs.map _) h.2.2⟩
theorem drop_sub (l : List S69) (s : ByteArray) : (Dk.drop l s).Sublist l := by
  unfold Dk.drop
  split
  · exact List.eraseIdx_sublist l _
  · exact List.Sublist.refl _
theorem DirOK.drop {l : List S69} {n : Nat} (h : DirOK l n) (s : ByteArray) : DirOK (Dk.drop l s) n := h.sub (drop_sub l s)
theorem pos_mem {l : List S69} (hs : Srt l) {s : ByteArray} (h : has l s = true) : ∃ x ∈ l, x.f0 = s ∧ l.getD (pos l s) z69 = x := by
  rw [has_pos hs] at h
  simp only [Bool.and_eq_true, decide_eq_true_eq] at h
  exact ⟨l.getD (pos l s) z69, by rw [getD_eq h.1]; exact List.getElem_mem h.1, nk_inj h.2, rfl⟩
theorem Srt.inj {l : List S69} (hs : Srt l) {x y : S69} (hx : x ∈ l) (hy : y ∈ l) (e : x.f0 = y.f0) : x = y := by
  obtain ⟨i, hi, rfl⟩ := List.getElem_of_mem hx
  obtain ⟨j, hj, rfl⟩ := List.getElem_of_mem hy
  rcases Nat.lt_trichotomy i j with h | h | h
  · have := List.pairwise_iff_getElem.1 hs i j hi hj h
    rw [e] at this
    exact absurd this (lt_irrefl _)
  · subst h; rfl
  · have := List.pairwise_iff_getElem.1 hs j i hj hi h
    rw [e] at this
    exact absurd this (lt_irrefl _)
theorem chg_ok {l : List S69} {o : S49} {n : Nat} (hl : DirOK l n) (h : (chg l o n).2 = 0) :
    DirOK (chg l o n).1 (if o.f0 = 1 then n + 1 else n) ∧ (∀ x ∈ (chg l o n).1, x.f1 = (n : Int) ∧ o.f0 = 1 ∨ ∃ y ∈ l, y.f1 = x.f1) := by
  unfold chg at h ⊢
  split
  · rename_i h1
    rw [if_pos h1] at h
    split at h
    · rename_i h2
      rw [if_pos h2]
      split at h
      · cases h
      · rename_i h3
        rw [if_neg h3]
        refine ⟨DirOK.put (hl.mono (Nat.le_succ n)) h2 (by simp) (by simp; omega) (by simpa using h3) (fun y hy => by have := (hl.1 y hy).2.2; simp; omega), fun x hx => ?_⟩
        rcases mem_put.1 hx with rfl | hx
        · exact .inl ⟨rfl, h1⟩
        · exact .inr ⟨x, hx, rfl⟩
    · cases h
  · rename_i h1
    rw [if_neg h1] at h
    split
    · rename_i h4
      rw [if_pos h4] at h
      split at h
      · rename_i h2
        rw [if_pos h2]
        split at h
        · rename_i h3
          rw [if_pos h3]
          split at h
          · cases h
          · rename_i h5
            rw [if_neg h5]
            obtain ⟨e, he, e1, e2⟩ := pos_mem hl.2.1 h2
            rw [e2]
            have hd : DirOK (Dk.drop (Dk.drop l o.f1) o.f2) n := (hl.drop _).drop _
            refine ⟨DirOK.put hd h3 (hl.1 e he).2.1 (hl.1 e he).2.2 (has_drop (hl.2.1.drop _) _) (fun y hy k => ?_), fun x hx => .inr ?_⟩
            · have hy1 := (mem_drop (hl.2.1.drop _)).1 hy
              have hy2 := (mem_drop hl.2.1).1 hy1.1
              have := hl.inj hy2.1 he k
              subst this
              exact hy2.2 e1
            · rcases mem_put.1 hx with rfl | hx
              · exact ⟨e, he, rfl⟩
              · exact ⟨x, (drop_sub _ _).subset ((drop_sub _ _).subset hx), rfl⟩
        · cases h
      · cases h
    · rename_i h4
      rw [if_neg h4] at h
      split at h
      · rename_i h2
        rw [if_pos h2]
        exact ⟨hl.drop _, fun x hx => .inr ⟨x, (drop_sub _ _).subset hx, rfl⟩⟩
      · cases h
theorem crt_cons (o : S49) (r : List S49) : crt (o :: r) = crt r + (if o.f0 = 1 then 1 else 0) := by
  unfold crt
  rw [List.countP_cons]
  by_cases h : o.f0 = 1 <;> simp [h]
theorem crt_append (a b : List S49) : crt (a ++ b) = crt a + crt b := by unfold crt; rw [List.countP_append]
theorem rep_cons (l : List S69) (n : Int) (o : S49) (r : List S49) : rep l n (o :: r) = if dirop o = true then (if (chg l o n).2 = 0 then rep (chg l o n).1 (if o.f0 = 1 then n + 1 else n) r else none) else none := rfl
theorem rep_append : ∀ (a b : List S49) (l : List S69) (m : Int), rep l m (a ++ b) = (rep l m a).bind (fun l' => rep l' (m + crt a) b)
  | [], b, l, m => by simp [rep, crt]
  | o :: a, b, l, m => by
    rw [List.cons_append, rep_cons, rep_cons]
    split
    · split
      · have e : (if o.f0 = 1 then m + 1 else m) + (crt a : Int) = m + ((crt (o :: a) : Nat) : Int) := by
          rw [crt_cons]
          by_cases h1 : o.f0 = 1
          · rw [if_pos h1, if_pos h1]; omega
          · rw [if_neg h1, if_neg h1]; omega
        rw [rep_append a b, e]
      · rfl
    · rfl
theorem rep_ok : ∀ (a : List S49) (l l' : List S69) (m : Nat), DirOK l m → rep l m a = some l' → DirOK l' (m + crt a) ∧ (∀ x ∈ l', (m : Int) ≤ x.f1 ∨ ∃ y ∈ l, y.f1 = x.f1)
  | [], l, l', m, hl, h => by
    obtain rfl : l = l' := by simpa [rep] using h
    exact ⟨by simpa [crt] using hl, fun x hx => .inr ⟨x, hx, rfl⟩⟩
  | o :: a, l, l', m, hl, h => by
    unfold rep at h
    split at h
    · split at h
      · rename_i h2
        obtain ⟨c1, c2⟩ := chg_ok hl h2
        have e : (if o.f0 = 1 then (m : Int) + 1 else m) = ((if o.f0 = 1 then m + 1 else m : Nat) : Int) := by split <;> rfl
        rw [e] at h
        obtain ⟨d1, d2⟩ := rep_ok a _ l' _ c1 h
        refine ⟨by rw [crt_cons]; refine d1.mono ?_; split <;> omega, fun x hx => ?_⟩
        rcases d2 x hx with h3 | ⟨y, hy, e3⟩
        · exact .inl (by split at h3 <;> omega)
        · rcases c2 y hy with ⟨e4, _⟩ | ⟨z, hz, e4⟩
          · exact .inl (by omega)
          · exact .inr ⟨z, hz, by omega⟩
      · cases h
    · cases h
theorem rep_take {l : List S69} {m : Int} {ops : List S49} {l' : List S69} (h : rep l m ops = some l') (k : Nat) : ∃ l2, rep l m (ops.take k) = some l2 := by
  rw [← List.take_append_drop k ops, rep_append] at h
  cases e : rep l m (ops.take k) with
  | none => rw [e] at h; cases h
  | some l2 => exact ⟨l2, rfl⟩
def inoOK (x : S67) : Prop := 0 ≤ x.f1 ∧ x.f1 ≤ x.f0.size ∧ x.f0.size ≤ 1048576
theorem inoBad_iff {d : Dsk} {i : Nat} {x : S67} : inoBad d i x = false ↔ (marked d.dir i = true ∨ marked d.dur i = true ∨ d.ino.length ≤ i + crt d.ops) ∧ inoOK x := by
  unfold inoBad inoOK
  cases h1 : marked d.dir i <;> cases h2 : marked d.dur i <;> simp <;> omega
structure Valid (d : Dsk) : Prop where
  dir : DirOK d.dir d.ino.length
  crt : crt d.ops ≤ d.ino.length
  dur : DirOK d.dur (d.ino.length - Dk.crt d.ops)
  old : ∀ i, i < d.ino.length - Dk.crt d.ops → marked d.dir i = true ∨ marked d.dur i = true
  ino : ∀ x ∈ d.ino, inoOK x
  rep : rep d.dur ((d.ino.length - Dk.crt d.ops : Nat) : Int) d.ops = some d.dir
theorem valid_of {d : Dsk} : valid d = true ↔ Valid d := by
  rw [valid_iff]
  constructor
  · rintro ⟨h1, h2, h3, h4, h5, h6⟩
    rw [List.any_eq_false] at h4
    refine ⟨h1, h3, ⟨fun x hx => ⟨(h2.1 x hx).1, (h2.1 x hx).2.1, ?_⟩, h2.2⟩, fun i hi => ?_, fun x hx => ?_, ?_⟩
    · have := h4 x hx
      simp only [decide_eq_true_eq] at this
      omega
    · rcases (inoBad_iff.1 (h5 i (by omega))).1 with h | h | h
      · exact .inl h
      · exact .inr h
      · omega
    · obtain ⟨i, hi, rfl⟩ := List.getElem_of_mem hx
      have := (inoBad_iff.1 (h5 i hi)).2
      rwa [getD67 hi] at this
    · rw [show ((d.ino.length - Dk.crt d.ops : Nat) : Int) = (d.ino.length : Int) - (Dk.crt d.ops : Nat) by omega]
      exact h6
  · intro h
    have h3 := h.crt
    refine ⟨h.dir, h.dur.mono (by omega), h3, ?_, fun i hi => inoBad_iff.2 ⟨?_, ?_⟩, ?_⟩
    · rw [List.any_eq_false]
      intro x hx
      have := (h.dur.1 x hx).2.2
      simp only [decide_eq_true_eq]
      omega
    · by_cases hi2 : i < d.ino.length - Dk.crt d.ops
      · exact (h.old i hi2).imp id .inl
      · exact .inr (.inr (by omega))
    · rw [getD67 hi]
      exact h.ino _ (List.getElem_mem hi)
    · rw [show (d.ino.length : Int) - (Dk.crt d.ops : Nat) = ((d.ino.length - Dk.crt d.ops : Nat) : Int) by omega]
      exact h.rep
theorem marked_iff {l : List S69} {i : Nat} : marked l i = true ↔ ∃ x ∈ l, x.f1 = (i : Int) := by
  unfold marked
  simp only [List.any_eq_true, decide_eq_true_eq]
theorem Valid.old' {d : Dsk} (h : Valid d) {i : Nat} (hi : i < d.ino.length - Dk.crt d.ops) : marked d.dur i = true := by
  rcases h.old i hi with h1 | h1
  · obtain ⟨x, hx, e⟩ := marked_iff.1 h1
    rcases (rep_ok d.ops d.dur d.dir _ h.dur h.rep).2 x hx with h2 | ⟨y, hy, e2⟩
    · omega
    · exact marked_iff.2 ⟨y, hy, by omega⟩
  · exact h1
theorem num_mono (l : List S69) {i j : Nat} (h : i ≤ j) : num l i ≤ num l j := by
  induction j with
  | zero => obtain rfl : i = 0 := by omega
            exact Nat.le_refl _
  | succ j ih =>
    rcases Nat.lt_or_ge j i with h2 | h2
    · rw [show i = j + 1 by omega]
      exact Nat.le_refl _
    · rw [num_succ]
      exact Nat.le_trans (ih h2) (Nat.le_add_right _ _)
theorem num_lt {l : List S69} {i j : Nat} (hm : marked l i = true) (h : i < j) : num l i < num l j := by
  have := num_mono l (show i + 1 ≤ j from h)
  rw [num_succ, if_pos hm] at this
  omega
theorem num_sur (l : List S69) : ∀ (n i : Nat), i < num l n → ∃ j, j < n ∧ marked l j = true ∧ num l j = i
  | 0, i, h => by simp [num] at h
  | n + 1, i, h => by
    rw [num_succ] at h
    by_cases hm : marked l n = true
    · rw [if_pos hm] at h
      rcases Nat.lt_or_ge i (num l n) with h2 | h2
      · obtain ⟨j, h3, h4⟩ := num_sur l n i h2
        exact ⟨j, by omega, h4⟩
      · exact ⟨n, by omega, hm, by omega⟩
    · rw [if_neg hm] at h
      obtain ⟨j, h3, h4⟩ := num_sur l n i (by omega)
      exact ⟨j, by omega, h4⟩
theorem keptTo_mem {l : List S69} {ino : List S67} {i : Nat} (hi : i ≤ ino.length) {x : S67} (h : x ∈ keptTo l ino i) : x ∈ ino := by
  unfold keptTo at h
  obtain ⟨k, hk, e⟩ := List.mem_filterMap.1 h
  split at e
  · have hk2 : k < ino.length := by have := List.mem_range.1 hk; omega
    rw [getD67 hk2] at e
    injection e with e
    exact e ▸ List.getElem_mem hk2
  · cases e
theorem DirOK_ren {l : List S69} {n : Nat} (h : DirOK l n) : DirOK (l.map (ren l)) (num l n) := by
  have hx : ∀ x ∈ l, ∃ j : Nat, x.f1 = (j : Int) ∧ j < n ∧ marked l j = true := fun x hx => by
    obtain ⟨_, h1, h2⟩ := h.1 x hx
    exact ⟨x.f1.toNat, (Int.toNat_of_nonneg h1).symm, by omega, marked_iff.2 ⟨x, hx, (Int.toNat_of_nonneg h1).symm⟩⟩
  refine ⟨fun y hy => ?_, ?_, ?_⟩
  · obtain ⟨x, hx1, rfl⟩ := List.mem_map.1 hy
    obtain ⟨j, e, hj, hm⟩ := hx x hx1
    refine ⟨(h.1 x hx1).1, by simp [ren], ?_⟩
    simp only [ren, e, Int.toNat_natCast]
    have := num_lt hm hj
    omega
  · unfold Srt
    rw [List.pairwise_map]
    exact h.2.1
  · rw [List.map_map]
    have h3 := h.2.2
    unfold List.Nodup at h3 ⊢
    rw [List.pairwise_map] at h3 ⊢
    refine List.Pairwise.imp_of_mem ?_ h3
    intro a b ha hb hne
    obtain ⟨i, e1, _, hm1⟩ := hx a ha
    obtain ⟨j, e2, _, hm2⟩ := hx b hb
    simp only [Function.comp, ren, e1, e2, Int.toNat_natCast]
    intro e
    rcases Nat.lt_trichotomy i j with h4 | h4 | h4
    · have := num_lt hm1 h4; omega
    · exact hne (by omega)
    · have := num_lt hm2 h4; omega
theorem valid_settle {d : Dsk} (h : DirOK d.dir d.ino.length) (hi : ∀ x ∈ d.ino, inoOK x) : Valid (settle d) := by
  have hl : (settle d).ino.length = num d.dir d.ino.length := keptTo_length _ _ _
  have hd := DirOK_ren h
  refine ⟨by rw [hl]; exact hd, Nat.zero_le _, by rw [hl]; exact hd, fun i h1 => .inl ?_, fun x hx => hi x (keptTo_mem (Nat.le_refl _) hx), rfl⟩
  rw [hl] at h1
  obtain ⟨j, h2, h3, h4⟩ := num_sur d.dir d.ino.length i (by have : Dk.crt (settle d).ops = 0 := rfl; omega)
  obtain ⟨x, hx, e⟩ := marked_iff.1 h3
  refine marked_iff.2 ⟨ren d.dir x, List.mem_map_of_mem hx, ?_⟩
  simp only [ren, e, Int.toNat_natCast, h4]
theorem inoOK_z : inoOK z67 := ⟨Int.le_refl _, Int.le_refl _, by decide⟩
theorem ent_lt {d : Dsk} (h : DirOK d.dir d.ino.length) {s : ByteArray} (hh : has d.dir s = true) : ent d s < d.ino.length := by
  obtain ⟨e, he, _, e2⟩ := pos_mem h.2.1 hh
  obtain ⟨_, h1, h2⟩ := h.1 e he
  unfold ent
  rw [e2]
  omega
theorem valid_app {d : Dsk} (h : Valid d) (o : S49) (h0 : (app d o).2 = 0) : Valid (app d o).1 := by
  unfold app at h0 ⊢
  split
  · rename_i hf
    rw [if_pos hf] at h0
    split
    · exact valid_settle h.dir h.ino
    · rename_i hk6
      rw [if_neg hk6] at h0
      split
      · rename_i hk23
        rw [if_pos hk23] at h0
        split
        · rename_i hh
          rw [if_pos hh] at h0
          have he := ent_lt h.dir hh
          have hx := h.ino _ (List.getElem_mem he)
          have key : ∀ x', inoOK x' → Valid ⟨d.ino.set (ent d o.f1) x', d.dir, d.dur, d.ops⟩ := fun x' hx' => by
            refine ⟨by rw [List.length_set]; exact h.dir, by rw [List.length_set]; exact h.crt, by rw [List.length_set]; exact h.dur, fun i hi => h.old i (by rwa [List.length_set] at hi), fun x hx => ?_, by rw [List.length_set]; exact h.rep⟩
            rcases List.mem_or_eq_of_mem_set hx with hx | rfl
            · exact h.ino x hx
            · exact hx'
          split
          · refine key _ ?_
            rw [getD67 he]
            exact ⟨Int.natCast_nonneg _, Int.le_refl _, hx.2.2⟩
          · split
            · rename_i hk3 hb
              rw [if_neg hk3, if_pos hb] at h0
              cases h0
            · rename_i hb
              refine key _ ?_
              rw [getD67 he] at hb ⊢
              have hx1 := hx.2.1
              refine ⟨hx.1, ?_, ?_⟩
              · show (d.ino[ent d o.f1]).f1 ≤ _
                rw [ByteArray.size_append]; omega
              · rw [ByteArray.size_append]; omega
        · rename_i hh
          rw [if_neg hh] at h0
          cases h0
      · rename_i hk23
        rw [if_neg hk23] at h0
        split
        · rename_i hc
          have hc' := chg_ok h.dir hc
          have hdir : dirop o = true := by
            unfold dirop
            rw [hf, Bool.and_true]
            unfold fieldsOK at hf
            by_cases h1 : o.f0 = 1
            · simp [h1]
            · by_cases h4 : o.f0 = 4
              · simp [h4]
              · by_cases h5 : o.f0 = 5
                · simp [h5]
                · exfalso
                  rw [if_neg (by omega), if_neg (by omega), if_neg h4, if_neg hk6] at hf
                  cases hf
          have hcr : Dk.crt (d.ops ++ [o]) = Dk.crt d.ops + (if o.f0 = 1 then 1 else 0) := by
            rw [crt_append]
            congr 1
            rw [crt_cons]
            simp [Dk.crt]
          have hlen : (if o.f0 = 1 then d.ino ++ [z67] else d.ino).length = d.ino.length + (if o.f0 = 1 then 1 else 0) := by split <;> simp
          have hcl := h.crt
          have hsub : (if o.f0 = 1 then d.ino ++ [z67] else d.ino).length - Dk.crt (d.ops ++ [o]) = d.ino.length - Dk.crt d.ops := by rw [hcr, hlen]; split <;> omega
          have hn : (if o.f0 = 1 then d.ino.length + 1 else d.ino.length) = (if o.f0 = 1 then d.ino ++ [z67] else d.ino).length := by rw [hlen]; split <;> rfl
          refine ⟨by rw [hn] at hc'; exact hc'.1, by show Dk.crt (d.ops ++ [o]) ≤ _; rw [hcr, hlen]; omega, ?_, fun i hi => .inr ?_, fun x hx => ?_, ?_⟩
          · show DirOK d.dur ((if o.f0 = 1 then d.ino ++ [z67] else d.ino).length - Dk.crt (d.ops ++ [o]))
            rw [hsub]; exact h.dur
          · have hi' : i < (if o.f0 = 1 then d.ino ++ [z67] else d.ino).length - Dk.crt (d.ops ++ [o]) := hi
            rw [hsub] at hi'
            exact h.old' hi'
          · have hx' : x ∈ (if o.f0 = 1 then d.ino ++ [z67] else d.ino) := hx
            split at hx'
            · rcases List.mem_append.1 hx' with hx' | hx'
              · exact h.ino x hx'
              · obtain rfl := List.mem_singleton.1 hx'
                exact inoOK_z
            · exact h.ino x hx'
          · show Dk.rep d.dur (((if o.f0 = 1 then d.ino ++ [z67] else d.ino).length - Dk.crt (d.ops ++ [o]) : Nat) : Int) (d.ops ++ [o]) = some (chg d.dir o (d.ino.length : Nat)).1
            rw [hsub, rep_append, h.rep]
            simp only [Option.bind_some]
            rw [show ((d.ino.length - Dk.crt d.ops : Nat) : Int) + (Dk.crt d.ops : Nat) = ((d.ino.length : Nat) : Int) by omega]
            unfold Dk.rep
            rw [if_pos hdir, if_pos hc]
            rfl
        · rename_i hc
          rw [if_neg hc] at h0
          exact absurd h0 hc
  · rename_i hf
    rw [if_neg hf] at h0
    cases h0
theorem Sml_app {d : Dsk} {k : Nat} (h : Sml k d) (o : S49) : Sml (k + 1) (app d o).1 := by
  obtain ⟨h0, h1, h2, h3⟩ := h
  have hz : Sml (k + 1) E0 := ⟨Nat.zero_le _, Nat.zero_le _, Nat.zero_le _, Nat.zero_le _⟩
  unfold app
  split
  · split
    · refine ⟨?_, ?_, ?_, Nat.zero_le _⟩
      · show (keptTo d.dir d.ino d.ino.length).length ≤ _
        rw [keptTo_length]
        have := num_le d.dir d.ino.length
        omega
      · show (d.dir.map (ren d.dir)).length ≤ _
        rw [List.length_map]; omega
      · show (d.dir.map (ren d.dir)).length ≤ _
        rw [List.length_map]; omega
    · split
      · split
        · split
          · exact ⟨by show (d.ino.set _ _).length ≤ _; rw [List.length_set]; omega, Nat.le_succ_of_le h1, Nat.le_succ_of_le h2, Nat.le_succ_of_le h3⟩
          · split
            · exact hz
            · exact ⟨by show (d.ino.set _ _).length ≤ _; rw [List.length_set]; omega, Nat.le_succ_of_le h1, Nat.le_succ_of_le h2, Nat.le_succ_of_le h3⟩
        · exact hz
      · split
        · refine ⟨?_, ?_, Nat.le_succ_of_le h2, ?_⟩
          · show (if o.f0 = 1 then d.ino ++ [z67] else d.ino).length ≤ _
            split
            · rw [List.length_append]; simp; omega
            · omega
          · have := chg_length d.dir o (d.ino.length : Nat)
            exact Nat.le_trans this (by omega)
          · show (d.ops ++ [o]).length ≤ _
            rw [List.length_append]; simp; omega
        · exact hz
  · exact hz
def appAll : Dsk → List S49 → Dsk × Int
  | d, [] => (d, 0)
  | d, o :: r => if (app d o).2 = 0 then appAll (app d o).1 r else (E0, (app d o).2)
def applyAll (d : Dsk) (l : List S49) : Dsk × Int := if valid d = true then appAll d l else (E0, 9)
end Go.Proofs.Ytnaddmkaakdhoaa.Dk

end
section
namespace Go.Proofs.Ytnaddmkaakdhoaa.J
open Go.RowKit Go.Proofs.YtnaddmkaakdhoaaW.PrintWords Go.Proofs.YtnaddmkaakdhoaaW.PrintLast Go.Proofs.YtnaddmkaakdhoaaW.PrintMore
open Dk (Srt valid app appAll applyAll Valid)
set_option linter.unusedVariables false
set_option linter.unusedSimpArgs false
theorem far47 {W : World} {S D : Nat} {t : Nat} {cs : Array Value} (h : W.heap[S]? = some (Obj.cells cs t (0, 0))) (hn : S ≠ D) (a0 a1 a2 a3 : Value) : ((((W.setCell ⟨D, 0, none⟩ a0).setCell ⟨D, 1, none⟩ a1).setCell ⟨D, 2, none⟩ a2).setCell ⟨D, 3, none⟩ a3).heap[S]? = some (Obj.cells cs t (0, 0)) :=
  blk_far (blk_far (blk_far (blk_far h (p := ⟨D, 0, none⟩) hn a0) (p := ⟨D, 1, none⟩) hn a1) (p := ⟨D, 2, none⟩) hn a2) (p := ⟨D, 3, none⟩) hn a3
set_option maxHeartbeats 8000000 in
set_option maxRecDepth 100000 in
theorem applyAll_calls (a : Value) (d : Dsk) (A : Option Addr) (c : Nat) (os : List S49) (w : World) (hd : DC w a d) (hr : Kd.C k49 w A os.length os) (hc : os.length ≤ c) (hs : Sml 40000 d) (ho : os.length ≤ 40000) (hz : ∀ o ∈ os, o.f3.size ≤ 140737488355328) :
    Calls Try.prog 44 #[a, .slice A os.length c] w fun e w' => ∃ v, e = .returned (.tuple #[v, .int .i64 (applyAll d os).2]) ∧ DR w' w.heap.size v (applyAll d os).1 ∧ Below w.heap.size w w' := by
  have DD := Aside0.mk hd
  obtain ⟨A0, c0, A1, c1, A2, c2, A3, c3, rfl, ⟨r0, l0⟩, ⟨r1, l1⟩, ⟨r2, l2⟩, ⟨r3, l3⟩⟩ := hd
  have hs' := Aside0.mk hs
  obtain ⟨n0, n1, n2, n3⟩ := hs
  have HR := Aside0.mk hr
  have HZ := Aside0.mk hz
  obtain ⟨res, hres⟩ : ∃ res, res = applyAll d os := ⟨_, rfl⟩
  rw [← hres]
  have RES := Aside0.mk hres
  obtain ⟨b, hb⟩ : ∃ b, b = valid d := ⟨_, rfl⟩
  have VC := Aside0.mk (fun w' hd' => validate_calls (.agg #[.slice A0 d.ino.length c0, .slice A1 d.dir.length c1, .slice A2 d.dur.length c2, .slice A3 d.ops.length c3]) d w' hd' ⟨by omega, by omega, by omega, by omega⟩)
  rw [← hb] at VC
  have VB := Aside0.mk hb
  obtain ⟨n, hn⟩ : ∃ n, n = os.length := ⟨_, rfl⟩
  have HN := Aside0.mk hn
  rw [← hn] at hc ho ⊢
  clear hr hz hres hb hn r0 r1 r2 r3
  go_enter Try.func44, Try.ntmps44
  go_wp2_with fail
  have hB := ((Below.refl w.heap.size w).alloc (Nat.le_refl _) (.cells #[.slice A0 d.ino.length c0, .slice A1 d.dir.length c1, .slice A2 d.dur.length c2, .slice A3 d.ops.length c3] 47)).alloc (by simp) (.cells #[.slice none 0 0, .slice none 0 0, .slice none 0 0, .slice none 0 0] 47)
  have hK := blk_alloc (blk_new w (.cells #[.slice A0 d.ino.length c0, .slice A1 d.dir.length c1, .slice A2 d.dur.length c2, .slice A3 d.ops.length c3] 47)) (.cells #[.slice none 0 0, .slice none 0 0, .slice none 0 0, .slice none 0 0] 47)
  have hS := blk_new (w.alloc (.cells #[.slice A0 d.ino.length c0, .slice A1 d.dir.length c1, .slice A2 d.dur.length c2, .slice A3 d.ops.length c3] 47)) (.cells #[.slice none 0 0, .slice none 0 0, .slice none 0 0, .slice none 0 0] 47)
  rw [show (w.alloc (.cells #[.slice A0 d.ino.length c0, .slice A1 d.dir.length c1, .slice A2 d.dur.length c2, .slice A3 d.ops.length c3] 47)).heap.size = w.heap.size + 1 by simp] at hS
  generalize (w.alloc (.cells #[.slice A0 d.ino.length c0, .slice A1 d.dir.length c1, .slice A2 d.dur.length c2, .slice A3 d.ops.length c3] 47)).alloc (.cells #[.slice none 0 0, .slice none 0 0, .slice none 0 0, .slice none 0 0] 47) = W0 at hB hK hS ⊢
  refine (VC.out W0 (DD.out.below hB)).mono ?_
  rintro e w1 ⟨rfl, hb1⟩
  have HB := Aside0.mk (below_step hB hb1)
  have HK := Aside0.mk (blk_below hK hb1)
  have HS := Aside0.mk (blk_below hS hb1)
  clear hB hK hS hb1 VC
  obtain ⟨D, hD⟩ : ∃ D, D = w.heap.size := ⟨_, rfl⟩
  obtain ⟨S, hS⟩ : ∃ S, S = w.heap.size + 1 := ⟨_, rfl⟩
  have ED := Aside0.mk hD
  have ES := Aside0.mk hS
  rw [← hS] at HS ⊢
  rw [← hD] at HK ⊢
  have hTD : w.heap.size ≤ D := by omega
  have hTS : w.heap.size ≤ S := by omega
  have hDS : D ≠ S := by omega
  have hSD : S ≠ D := by omega
  clear hD hS
  cases b with
  | false =>
    have E := Aside0.mk (show res = (Dk.E0, 9) from by rw [RES.out]; unfold Dk.applyAll; rw [← VB.out]; rfl)
    have s0 := (blk_cell HS.out 0).trans rfl
    have s1 := (blk_cell HS.out 1).trans rfl
    have s2 := (blk_cell HS.out 2).trans rfl
    have s3 := (blk_cell HS.out 3).trans rfl
    have f0 := blk_frozen HS.out 0
    have f1 := blk_frozen HS.out 1
    have f2 := blk_frozen HS.out 2
    have f3 := blk_frozen HS.out 3
    go_wp2
    refine bodyPost_ret (results_ct rfl _ _ S 47 _ (0, 0) _ rfl (put47 HS.out _ _ _ _) Try.underlying47 rfl (by kernel_rfl)) rfl ?_
    rw [E.out]
    exact ⟨_, rfl, (DR.zero _ _).put47 HS.out _ _ _ _, below_put47 HB.out hTS _ _ _ _⟩
  | true =>
    have V := Aside0.mk (Dk.valid_of.1 VB.out.symm)
    have E := Aside0.mk (show res = appAll d os from by rw [RES.out]; unfold Dk.applyAll; rw [← VB.out]; rfl)
    have k0 := (blk_cell HK.out 0).trans rfl
    have k1 := (blk_cell HK.out 1).trans rfl
    have k2 := (blk_cell HK.out 2).trans rfl
    have k3 := (blk_cell HK.out 3).trans rfl
    have g0 := blk_frozen HK.out 0
    have g1 := blk_frozen HK.out 1
    have g2 := blk_frozen HK.out 2
    have g3 := blk_frozen HK.out 3
    go_wp2_with fail
    refine (clone_calls _ d ⟨by have := hs'.out.1; omega, by omega, by omega, by omega⟩ w1 (DD.out.below HB.out)).mono ?_
    rintro e w2 ⟨v, rfl, h1, h2⟩
    obtain ⟨B0, e0, B1, e1, B2, e2, B3, e3, rfl⟩ := h1.slices
    have D2 := Aside0.mk (h1.lower HB.out.size)
    have HB2 := Aside0.mk (below_step HB.out h2)
    have K2 := Aside0.mk (blk_below HK.out h2)
    have S2 := Aside0.mk (blk_below HS.out h2)
    clear h1 h2 k0 k1 k2 k3 g0 g1 g2 g3
    have k0 := (blk_cell K2.out 0).trans rfl
    have k1 := (blk_cell K2.out 1).trans rfl
    have k2 := (blk_cell K2.out 2).trans rfl
    have k3 := (blk_cell K2.out 3).trans rfl
    have g0 := blk_frozen K2.out 0
    have g1 := blk_frozen K2.out 1
    have g2 := blk_frozen K2.out 2
    have g3 := blk_frozen K2.out 3
    go_upto_region 5 with fail
    have K3 := Aside0.mk (put47 K2.out (.slice B0 d.ino.length e0) (.slice B1 d.dir.length e1) (.slice B2 d.dur.length e2) (.slice B3 d.ops.length e3))
    have S3 := Aside0.mk (far47 S2.out hSD (.slice B0 d.ino.length e0) (.slice B1 d.dir.length e1) (.slice B2 d.dur.length e2) (.slice B3 d.ops.length e3))
    have D3 := Aside0.mk (D2.out.put47 K2.out (.slice B0 d.ino.length e0) (.slice B1 d.dir.length e1) (.slice B2 d.dur.length e2) (.slice B3 d.ops.length e3))
    have B3' := Aside0.mk (below_put47 HB2.out hTD (.slice B0 d.ino.length e0) (.slice B1 d.dir.length e1) (.slice B2 d.dur.length e2) (.slice B3 d.ops.length e3))
    generalize (((w2.setCell ⟨D, 0, none⟩ (.slice B0 d.ino.length e0)).setCell ⟨D, 1, none⟩ (.slice B1 d.dir.length e1)).setCell ⟨D, 2, none⟩ (.slice B2 d.dur.length e2)).setCell ⟨D, 3, none⟩ (.slice B3 d.ops.length e3) = W3 at K3 S3 D3 B3' ⊢
    clear k0 k1 k2 k3 g0 g1 g2 g3 K2 S2 D2 HB2 HB HK HS
    go_wp2_with fail
    go_loopg [21] n (fun kx s21 wr => ∃ (i : Nat) (d' : Dsk) (C0 C1 C2 C3 : Option Addr) (e0 e1 e2 e3 : Nat), s21 = .int .i64 i ∧ i ≤ n ∧ n - i ≤ kx ∧ Aside0 (appAll d os = appAll d' (os.drop i)) ∧ Aside0 (Valid d') ∧ Aside0 (Sml (40000 + i) d') ∧ Aside0 (Below w.heap.size w wr) ∧ Aside0 (wr.heap[D]? = some (.cells #[.slice C0 d'.ino.length e0, .slice C1 d'.dir.length e1, .slice C2 d'.dur.length e2, .slice C3 d'.ops.length e3] 47 (0, 0))) ∧ Aside0 (wr.heap[S]? = some (.cells #[.slice none 0 0, .slice none 0 0, .slice none 0 0, .slice none 0 0] 47 (0, 0))) ∧ Aside0 (DR wr w.heap.size (.agg #[.slice C0 d'.ino.length e0, .slice C1 d'.dir.length e1, .slice C2 d'.dur.length e2, .slice C3 d'.ops.length e3]) d'))
    case atStart => exact ⟨0, d, _, _, _, _, _, _, _, _, rfl, Nat.zero_le _, by omega, ⟨rfl⟩, V, hs', B3', K3, S3, D3⟩
    case round =>
      clear B3' K3 S3 D3
      obtain ⟨i, d', C0, C1, C2, C3, e0, e1, e2, e3, rfl, hi, hk, hA, hV, hS', HB, HK, HS, HD⟩ := hrel
      by_cases hlt : i < n
      · obtain ⟨ad, ea, hx0, hx1, hx2, hx3⟩ := at_T49 HR.out (i : Int) (by omega) (by have := HN.out; omega)
        cases ea
        obtain ⟨y, hy⟩ : ∃ y, y = rd_T49 os (i : Int) := ⟨_, rfl⟩
        rw [← hy] at hx0 hx1 hx2 hx3
        have hil : i < os.length := by have := HN.out; omega
        have hyi : os[i] = y := by
          rw [hy]
          show _ = os.getD i z49
          rw [List.getD_eq_getElem?_getD, List.getElem?_eq_getElem hil]
          rfl
        have hdr := Aside0.mk (show appAll d os = _ from by rw [hA.out, List.drop_eq_getElem_cons hil, hyi])
        have hyz := HZ.out y (hyi ▸ List.getElem_mem hil)
        clear hy hyi
        replace hx0 : wr.cell? (ad.add (i * 4)) = some (.int .i64 y.f0) := (HB.out.cell (World.block_lt_of_cell? w _ hx0)).trans hx0
        replace hx1 : wr.cell? ⟨(ad.add (i * 4)).block, (ad.add (i * 4)).off + 1, none⟩ = some (.string y.f1) := (HB.out.cell (World.block_lt_of_cell? w _ hx1)).trans hx1
        replace hx2 : wr.cell? ⟨(ad.add (i * 4)).block, (ad.add (i * 4)).off + 2, none⟩ = some (.string y.f2) := (HB.out.cell (World.block_lt_of_cell? w _ hx2)).trans hx2
        replace hx3 : wr.cell? ⟨(ad.add (i * 4)).block, (ad.add (i * 4)).off + 3, none⟩ = some (.string y.f3) := (HB.out.cell (World.block_lt_of_cell? w _ hx3)).trans hx3
        have bn := (Below.refl wr.heap.size wr).alloc (Nat.le_refl _) (.cells #[.int .i64 y.f0, .string y.f1, .string y.f2, .string y.f3] 49)
        have kX := blk_new wr (.cells #[.int .i64 y.f0, .string y.f1, .string y.f2, .string y.f3] 49)
        have HB4 := Aside0.mk (below_step HB.out bn)
        have HK4 := Aside0.mk (blk_below HK.out bn)
        have HS4 := Aside0.mk (blk_below HS.out bn)
        have HD4 := Aside0.mk (HD.out.below bn)
        have y0 := (blk_cell kX 0).trans rfl
        have y1 := (blk_cell kX 1).trans rfl
        have y2 := (blk_cell kX 2).trans rfl
        have y3 := (blk_cell kX 3).trans rfl
        have hsm := hS'.out
        have AC := Aside0.mk (fun W hT h => apply_calls w.heap.size (.agg #[.slice C0 d'.ino.length e0, .slice C1 d'.dir.length e1, .slice C2 d'.dur.length e2, .slice C3 d'.ops.length e3]) d' y W h hT ⟨by have := hsm.1; omega, by have := hsm.2.1; omega, by have := hsm.2.2.1; omega, by have := hsm.2.2.2; omega⟩ hV.out.dir.2.1 (fun x hx => (hV.out.dir.1 x hx).2) (fun x hx => (hV.out.ino x hx).2.2) (by omega))
        obtain ⟨ap, hap⟩ : ∃ ap, ap = app d' y := ⟨_, rfl⟩
        rw [← hap] at AC
        have AP := Aside0.mk hap
        clear bn kX hsm hap HK HS HD
        obtain ⟨ad1, ae⟩ := ap
        have k0 := (blk_cell HK4.out 0).trans rfl
        have k1 := (blk_cell HK4.out 1).trans rfl
        have k2 := (blk_cell HK4.out 2).trans rfl
        have k3 := (blk_cell HK4.out 3).trans rfl
        go_wp2_with fail
        refine (AC.out _ (Nat.le_trans HB.out.size (by simp)) HD4.out).mono ?_
        rintro e w5 ⟨v, rfl, h1, h2, h3⟩
        obtain ⟨F0, g0, F1, g1, F2, g2, F3, g3, rfl⟩ := h1.slices
        have D5 := Aside0.mk h1
        have B5 := Aside0.mk (HB4.out.trans (h2.mono (Nat.le_refl _)))
        have K5 := Aside0.mk (h3 _ _ _ HK4.out (by decide))
        have S5 := Aside0.mk (h3 _ _ _ HS4.out (by decide))
        clear h1 h2 h3 k0 k1 k2 k3 y0 y1 y2 y3 hx0 hx1 hx2 hx3 HB4 HK4 HS4 HD4 AC
        by_cases hae : ae = 0
        · subst hae
          go_upto_region 11 with fail
          have bn := (Below.refl w5.heap.size w5).alloc (Nat.le_refl _) (.cells #[.slice F0 ad1.ino.length g0, .slice F1 ad1.dir.length g1, .slice F2 ad1.dur.length g2, .slice F3 ad1.ops.length g3] 47)
          have B6 := Aside0.mk (below_step B5.out bn)
          have K6 := Aside0.mk (blk_below K5.out bn)
          have S6 := Aside0.mk (blk_below S5.out bn)
          have D6 := Aside0.mk (D5.out.below bn)
          have N6 := Aside0.mk (blk_new w5 (.cells #[.slice F0 ad1.ino.length g0, .slice F1 ad1.dir.length g1, .slice F2 ad1.dur.length g2, .slice F3 ad1.ops.length g3] 47))
          generalize w5.alloc (.cells #[.slice F0 ad1.ino.length g0, .slice F1 ad1.dir.length g1, .slice F2 ad1.dur.length g2, .slice F3 ad1.ops.length g3] 47) = W6 at B6 K6 S6 D6 N6 ⊢
          obtain ⟨NN, hNN⟩ : ∃ NN, NN = w5.heap.size := ⟨_, rfl⟩
          rw [← hNN] at N6 ⊢
          have hDN : D ≠ NN := by have := blk_lt K5.out; omega
          have hND : NN ≠ D := Ne.symm hDN
          clear bn hNN B5 K5 S5 D5
          have k0 := (blk_cell K6.out 0).trans rfl
          have k1 := (blk_cell K6.out 1).trans rfl
          have k2 := (blk_cell K6.out 2).trans rfl
          have k3 := (blk_cell K6.out 3).trans rfl
          have kf0 := blk_frozen K6.out 0
          have kf1 := blk_frozen K6.out 1
          have kf2 := blk_frozen K6.out 2
          have kf3 := blk_frozen K6.out 3
          have m0 := (blk_cell N6.out 0).trans rfl
          have m1 := (blk_cell N6.out 1).trans rfl
          have m2 := (blk_cell N6.out 2).trans rfl
          have m3 := (blk_cell N6.out 3).trans rfl
          go_upto_region 12 with fail
          have K7 := Aside0.mk (put47 K6.out (.slice F0 ad1.ino.length g0) (.slice F1 ad1.dir.length g1) (.slice F2 ad1.dur.length g2) (.slice F3 ad1.ops.length g3))
          have S7 := Aside0.mk (far47 S6.out hSD (.slice F0 ad1.ino.length g0) (.slice F1 ad1.dir.length g1) (.slice F2 ad1.dur.length g2) (.slice F3 ad1.ops.length g3))
          have D7 := Aside0.mk (D6.out.put47 K6.out (.slice F0 ad1.ino.length g0) (.slice F1 ad1.dir.length g1) (.slice F2 ad1.dur.length g2) (.slice F3 ad1.ops.length g3))
          have B7 := Aside0.mk (below_put47 B6.out hTD (.slice F0 ad1.ino.length g0) (.slice F1 ad1.dir.length g1) (.slice F2 ad1.dur.length g2) (.slice F3 ad1.ops.length g3))
          generalize (((W6.setCell ⟨D, 0, none⟩ (.slice F0 ad1.ino.length g0)).setCell ⟨D, 1, none⟩ (.slice F1 ad1.dir.length g1)).setCell ⟨D, 2, none⟩ (.slice F2 ad1.dur.length g2)).setCell ⟨D, 3, none⟩ (.slice F3 ad1.ops.length g3) = W7 at K7 S7 D7 B7 ⊢
          clear k0 k1 k2 k3 kf0 kf1 kf2 kf3 m0 m1 m2 m3 K6 S6 D6 B6 N6
          have V7 := Aside0.mk (show Valid ad1 from by have := Dk.valid_app hV.out y (by rw [← AP.out]); rwa [← AP.out] at this)
          have SM7 := Aside0.mk (show Sml (40000 + (i + 1)) ad1 from by have := Dk.Sml_app hS'.out y; rwa [← AP.out] at this)
          have A7 := Aside0.mk (show appAll d os = appAll ad1 (os.drop (i + 1)) from by
            rw [hdr.out]
            conv => lhs; unfold Dk.appAll
            rw [← AP.out, if_pos rfl])
          go_wp2
          go_roundg (n - i - 1)
          case measure => omega
          case rel => exact ⟨i + 1, ad1, _, _, _, _, _, _, _, _, by first | rfl | (simp; done), hlt, by omega, A7, V7, SM7, B7, K7, S7, D7⟩
        · have E2 := Aside0.mk (show res = (Dk.E0, ae) from by
            rw [E.out, hdr.out]
            conv => lhs; unfold Dk.appAll
            rw [← AP.out, if_neg hae])
          go_upto_region 10 with fail
          have bn := (Below.refl w5.heap.size w5).alloc (Nat.le_refl _) (.cells #[.slice F0 ad1.ino.length g0, .slice F1 ad1.dir.length g1, .slice F2 ad1.dur.length g2, .slice F3 ad1.ops.length g3] 47)
          have B6 := Aside0.mk (below_step B5.out bn)
          have K6 := Aside0.mk (blk_below K5.out bn)
          have S6 := Aside0.mk (blk_below S5.out bn)
          have D6 := Aside0.mk (D5.out.below bn)
          have N6 := Aside0.mk (blk_new w5 (.cells #[.slice F0 ad1.ino.length g0, .slice F1 ad1.dir.length g1, .slice F2 ad1.dur.length g2, .slice F3 ad1.ops.length g3] 47))
          generalize w5.alloc (.cells #[.slice F0 ad1.ino.length g0, .slice F1 ad1.dir.length g1, .slice F2 ad1.dur.length g2, .slice F3 ad1.ops.length g3] 47) = W6 at B6 K6 S6 D6 N6 ⊢
          obtain ⟨NN, hNN⟩ : ∃ NN, NN = w5.heap.size := ⟨_, rfl⟩
          rw [← hNN] at N6 ⊢
          have hDN : D ≠ NN := by have := blk_lt K5.out; omega
          have hND : NN ≠ D := Ne.symm hDN
          clear bn hNN B5 K5 S5 D5
          have s0 := (blk_cell S6.out 0).trans rfl
          have s1 := (blk_cell S6.out 1).trans rfl
          have s2 := (blk_cell S6.out 2).trans rfl
          have s3 := (blk_cell S6.out 3).trans rfl
          have f0 := blk_frozen S6.out 0
          have f1 := blk_frozen S6.out 1
          have f2 := blk_frozen S6.out 2
          have f3 := blk_frozen S6.out 3
          go_wp2
          refine bodyPost_ret (results_ct rfl _ _ S 47 _ (0, 0) _ rfl (put47 S6.out _ _ _ _) Try.underlying47 rfl (by kernel_rfl)) rfl ?_
          rw [E2.out]
          exact ⟨_, rfl, (DR.zero _ _).put47 S6.out _ _ _ _, below_put47 B6.out hTS _ _ _ _⟩
      · have E2 := Aside0.mk (show res = (d', 0) from by
          rw [E.out, hA.out, List.drop_of_length_le (by have := HN.out; omega)]
          rfl)
        have k0 := (blk_cell HK.out 0).trans rfl
        have k1 := (blk_cell HK.out 1).trans rfl
        have k2 := (blk_cell HK.out 2).trans rfl
        have k3 := (blk_cell HK.out 3).trans rfl
        have s0 := (blk_cell HS.out 0).trans rfl
        have s1 := (blk_cell HS.out 1).trans rfl
        have s2 := (blk_cell HS.out 2).trans rfl
        have s3 := (blk_cell HS.out 3).trans rfl
        have f0 := blk_frozen HS.out 0
        have f1 := blk_frozen HS.out 1
        have f2 := blk_frozen HS.out 2
        have f3 := blk_frozen HS.out 3
        go_wp2
        refine bodyPost_ret (results_ct rfl _ _ S 47 _ (0, 0) _ rfl (put47 HS.out _ _ _ _) Try.underlying47 rfl (by kernel_rfl)) rfl ?_
        rw [E2.out]
        exact ⟨_, rfl, HD.out.put47 HS.out _ _ _ _, below_put47 HB.out hTS _ _ _ _⟩
end Go.Proofs.Ytnaddmkaakdhoaa.J

end
