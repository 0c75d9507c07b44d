/-
  Texts of this claim, joined, without what the claim does not use: XDs XDx XPd XRa XRb XRc XRd
-/
import Derived.StillTailTactics
import Derived.Test.YtnaddmkaakdhoaaSCAh
section
namespace Go.Proofs.Ytnaddmkaakdhoaa.Dk
open J
def num (l : List S69) (j : Nat) : Nat := (List.range j).countP (fun i => marked l i)
def keptTo (l : List S69) (ino : List S67) (i : Nat) : List S67 := (List.range i).filterMap (fun k => if marked l k = true then some (ino.getD k z67) else none)
def ren (l : List S69) (x : S69) : S69 := ⟨x.f0, (num l x.f1.toNat : Nat)⟩
def settle (d : Dsk) : Dsk := ⟨keptTo d.dir d.ino d.ino.length, d.dir.map (ren d.dir), d.dir.map (ren d.dir), []⟩
theorem num_succ (l : List S69) (j : Nat) : num l (j + 1) = num l j + (if marked l j = true then 1 else 0) := by
  unfold num
  rw [List.range_succ, List.countP_append, List.countP_cons, List.countP_nil, Nat.zero_add]
theorem num_le (l : List S69) (j : Nat) : num l j ≤ j := by
  have := List.countP_le_length (p := fun i => marked l i) (l := List.range j)
  rwa [List.length_range] at this
theorem keptTo_succ (l : List S69) (ino : List S67) (i : Nat) : keptTo l ino (i + 1) = keptTo l ino i ++ (if marked l i = true then [ino.getD i z67] else []) := by
  unfold keptTo
  rw [List.range_succ, List.filterMap_append]
  congr 1
  by_cases h : marked l i = true <;> simp [h]
theorem keptTo_length (l : List S69) (ino : List S67) : ∀ i, (keptTo l ino i).length = num l i
  | 0 => rfl
  | i + 1 => by
    rw [keptTo_succ, num_succ, List.length_append, keptTo_length l ino i]
    split <;> rfl
def atTo (l : List S69) (i : Nat) (j : Nat) : Int := if marked l j = true then (if j < i then (num l j : Nat) else 1) else 0
theorem atTo_set (l : List S69) (i : Nat) (h : marked l i = true) (j : Nat) : (if j = i then ((num l i : Nat) : Int) else atTo l i j) = atTo l (i + 1) j := by
  unfold atTo
  by_cases e : j = i
  · subst e; simp [h]
  · rw [if_neg e]
    split
    · by_cases k : j < i
      · rw [if_pos k, if_pos (by omega)]
      · rw [if_neg k, if_neg (by omega)]
    · rfl
theorem atTo_skip (l : List S69) (i : Nat) (h : marked l i = false) (j : Nat) : atTo l i j = atTo l (i + 1) j := by
  unfold atTo
  split
  · rename_i hm
    by_cases k : j < i
    · rw [if_pos k, if_pos (by omega)]
    · rw [if_neg k, if_neg (fun h2 => by rw [show j = i by omega, h] at hm; cases hm)]
  · rfl
theorem marked_take (l : List S69) (i : Nat) (h : i < l.length) (j : Nat) : marked (l.take (i + 1)) j = (marked (l.take i) j || decide (l[i].f1 = (j : Int))) := by
  rw [List.take_succ_eq_append_getElem h, marked_snoc]
theorem marked_mem {l : List S69} {x : S69} (h : x ∈ l) {j : Nat} (e : x.f1 = (j : Int)) : marked l j = true := by
  unfold marked
  exact List.any_eq_true.2 ⟨x, h, decide_eq_true e⟩
end Go.Proofs.Ytnaddmkaakdhoaa.Dk
namespace Go.Proofs.Ytnaddmkaakdhoaa.J
open Go.RowKit Go.Proofs.YtnaddmkaakdhoaaW.PrintWords Go.Proofs.YtnaddmkaakdhoaaW.PrintLast Go.Proofs.YtnaddmkaakdhoaaW.PrintMore
open Dk (Srt marked num keptTo ren atTo)
set_option linter.unusedVariables false
set_option linter.unusedSimpArgs false
def KeepT (ts : List Nat) (w w' : World) : Prop := ∀ (k : Nat) (cs : Array Value) (t : Nat), w.heap[k]? = some (Obj.cells cs t (0, 0)) → t ∉ ts → w'.heap[k]? = some (Obj.cells cs t (0, 0))
theorem KeepT.of_below {ts : List Nat} {w w' : World} (hb : Below w.heap.size w w') : KeepT ts w w' := fun k _ _ h _ => (hb.block k (blk_lt h)).trans h
theorem KeepT.trans {ts : List Nat} {w W W' : World} (h : KeepT ts w W) (k : KeepT ts W W') : KeepT ts w W' := fun b cs t hb ht => k b cs t (h b cs t hb ht) ht
theorem KeepT.below {ts : List Nat} {w W W' : World} (h : KeepT ts w W) (hb : Below W.heap.size W W') : KeepT ts w W' := h.trans (KeepT.of_below hb)
theorem KeepT.set {ts : List Nat} {w W : World} (h : KeepT ts w W) {g t : Nat} {cs : Array Value} (hg : W.heap[g]? = some (.cells cs t (0, 0))) (ht : t ∈ ts) (j : Nat) (u : Value) : KeepT ts w (W.setCell ⟨g, j, none⟩ u) := fun b cs' t' hb ht' =>
  blk_far (h b cs' t' hb ht') (p := ⟨g, j, none⟩) (blk_ne (h b cs' t' hb ht') hg (fun e => ht' (e ▸ ht))) u
theorem KeepT.set_new {ts : List Nat} {w W : World} (h : KeepT ts w W) {g : Nat} (hg : w.heap.size ≤ g) (j : Nat) (u : Value) : KeepT ts w (W.setCell ⟨g, j, none⟩ u) := fun b cs' t' hb ht' =>
  blk_far (h b cs' t' hb ht') (p := ⟨g, j, none⟩) (fun e => by have := blk_lt hb; have e2 : b = g := e; omega) u
theorem KeepT.mono {ts ts' : List Nat} {w W : World} (h : KeepT ts w W) (hs : ∀ t, t ∈ ts → t ∈ ts') : KeepT ts' w W := fun b cs t hb ht => h b cs t hb (fun k => ht (hs t k))
theorem KeepT.drew {ts : List Nat} {w W : World} (h : KeepT ts w W) : KeepT ts w W.drew := h
def ncells (n : Nat) (f : Nat → Int) : Array Value := Array.ofFn (n := n) fun j => .int .i64 (f j)
def Nums (w : World) (g : Nat) (n : Nat) (f : Nat → Int) : Prop := w.heap[g]? = some (.cells (ncells n f) 3 (0, 0))
theorem ncells_at (n : Nat) (f : Nat → Int) (j : Nat) (h : j < n) : (ncells n f)[j]? = some (.int .i64 (f j)) := by
  unfold ncells
  rw [Array.getElem?_ofFn]
  simp [h]
theorem Nums.cell {w : World} {g n : Nat} {f : Nat → Int} (h : Nums w g n f) {j : Nat} (hj : j < n) : w.cell? ⟨g, j, none⟩ = some (.int .i64 (f j)) := (blk_cell h j).trans (ncells_at n f j hj)
theorem ncells_set (n : Nat) (f : Nat → Int) (j : Nat) (x : Int) (hj : j < n) : (ncells n f).setIfInBounds j (.int .i64 x) = ncells n (fun k => if k = j then x else f k) := by
  apply Array.ext
  · simp [ncells]
  · intro i h1 h2
    have hi : i < n := by simpa [ncells] using h2
    apply Option.some.inj
    rw [← Array.getElem?_eq_getElem, ← Array.getElem?_eq_getElem, Array.getElem?_setIfInBounds, ncells_at _ _ i hi, ncells_at _ _ i hi]
    by_cases e : j = i
    · subst e; simp [ncells, hj]
    · simp [e, Ne.symm e]
theorem Nums.set {w : World} {g n : Nat} {f f' : Nat → Int} (h : Nums w g n f) {j : Nat} (hj : j < n) (x : Int) (hf : ∀ k, (if k = j then x else f k) = f' k) : Nums (w.setCell ⟨g, j, none⟩ (.int .i64 x)) g n f' :=
  blk_put h j _ ((ncells_set n f j x hj).trans (congrArg (ncells n) (funext hf)))
theorem made_nums (n : Nat) : madeCells #[Value.int .i64 0] n = ncells n (fun _ => 0) := by
  apply Array.ext
  · simp [madeCells, ncells]
  · intro i h1 h2
    simp [madeCells, ncells, Nat.mod_one]
theorem make_nums (n : Nat) (hn : n ≤ 1000000) (W : World) : (Instr.makeSlice 22 (.int .i64 (n : Nat)) (.int .i64 (n : Nat))).run Try.prog W = .ok (.slice (some ⟨W.heap.size, 0, none⟩) n n) (W.alloc (.cells (ncells n (fun _ => 0)) 3)) := by
  rw [← made_nums]
  exact print_make_of (P := Try.prog) 22 3 (.int .i64 0) 8 Try.underlying22 info3 rfl (by omega) n (by omega) W
theorem C67_one {w : World} {vb : Nat} {x : S67} (h : w.heap[vb]? = some (.cells #[.string x.f0, .int .i64 x.f1] 67 (0, 0))) : Kd.C k67 w (some ⟨vb, 0, none⟩) 1 [x] :=
  ⟨rfl, by omega, fun _ => ⟨_, rfl, fun j p hj => by
    obtain rfl : j = 0 := by have := (List.getElem?_eq_some_iff.1 hj).1; simp at this; exact this
    obtain rfl : x = p := by simpa using hj
    refine ⟨_, rfl, k67_mk w x, fun i u hu => ?_⟩
    rw [Addr.add_lit, blk_cell h]
    match i, hu with
    | 0, hu => simpa using hu
    | 1, hu => simpa using hu
    | k + 2, hu => simp at hu⟩⟩
theorem cs69_set : ∀ (l : List S69) (i : Nat) (m : Int) (h : i < l.length), (cs69 l).set (i * 2 + 1) (.int .i64 m) = cs69 (l.set i ⟨l[i].f0, m⟩)
  | x :: l, 0, m, _ => rfl
  | x :: l, i + 1, m, h => by
    have := cs69_set l i m (by simpa using h)
    rw [List.set_cons_succ, cs69, cs69, show (i + 1) * 2 + 1 = i * 2 + 1 + 1 + 1 by omega]
    simpa using this
theorem R69_set {w : World} {T : Nat} {P : Nat → Prop} {g c n : Nat} {l : List S69} (h : Kd.R k69 69 w T P (.slice (some ⟨g, 0, none⟩) n c) l) (hn : l.length = n) (i : Nat) (hi : i < l.length) (m : Int) : Kd.R k69 69 (w.setCell ⟨g, i * 2 + 1, none⟩ (.int .i64 m)) T P (.slice (some ⟨g, 0, none⟩) n c) (l.set i ⟨l[i].f0, m⟩) := by
  subst hn
  have ho := R69_own h
  refine R69_of (n := l.length) ?_ (by simp) h.1
  refine ⟨by rw [cs69_len, List.length_set], ?_⟩
  rcases ho.2 with ⟨e, _⟩ | ⟨g', cap, cur, e, hg, hh, hnc, hcm, hcs, htk⟩
  · injection e with e; cases e
  · injection e with e1 _ e2
    injection e1 with e1
    injection e1 with e1
    subst e1
    subst e2
    refine .inr ⟨g, c, _, rfl, hg, blk_set hh _ _, hnc, hcm, by rw [Array.size_setIfInBounds]; exact hcs, ?_⟩
    rw [Array.toList_setIfInBounds, List.take_set, htk]
    exact cs69_set l i m hi
theorem R69_cells {w : World} {T : Nat} {P : Nat → Prop} {g c n : Nat} {l : List S69} (h : Kd.R k69 69 w T P (.slice (some ⟨g, 0, none⟩) n c) l) (i : Nat) (hi : i < l.length) : w.cell? ⟨g, i * 2, none⟩ = some (.string l[i].f0) ∧ w.cell? ⟨g, i * 2 + 1, none⟩ = some (.int .i64 l[i].f1) := by
  obtain ⟨A, c', e, _, hr⟩ := Kd.R_reads h
  injection e with e1 _ _
  subst e1
  obtain ⟨ad, ea, h0, h1⟩ := at_T69 hr (i : Int) (by omega) (by omega)
  injection ea with ea
  subst ea
  rw [show rd_T69 l (i : Int) = l[i] from Dk.getD_eq hi] at h0 h1
  rw [Int.toNat_natCast, Addr.add_lit, Nat.zero_add] at h0 h1
  exact ⟨h0, h1⟩
theorem R69_block {w : World} {T : Nat} {P : Nat → Prop} {A : Option Addr} {n c : Nat} {l : List S69} (h : Kd.R k69 69 w T P (.slice A n c) l) (h0 : 0 < l.length) : ∃ g cur, A = some ⟨g, 0, none⟩ ∧ w.heap[g]? = some (.cells cur 69 (0, 0)) := by
  rcases (R69_own h).2 with ⟨_, e⟩ | ⟨g', cap, cur, e, hg, hh, _⟩
  · rw [e] at h0; exact absurd h0 (Nat.lt_irrefl _)
  · injection e with e _ _
    exact ⟨g', cur, e, hh⟩
set_option maxHeartbeats 8000000 in
set_option maxRecDepth 100000 in
theorem settle_calls (T : Nat) (a : Value) (d : Dsk) (w : World) (h : DR w T a d) (hT : T ≤ w.heap.size) (hs : Sml 200000 d) (hin : ∀ x ∈ d.dir, 0 ≤ x.f1 ∧ x.f1 < d.ino.length) :
    Calls Try.prog 74 #[a] w fun e w' => ∃ v, e = .returned v ∧ DR w' T v (Dk.settle d) ∧ Below T w w' ∧ KeepT [69] w w' := by
  obtain ⟨v0, v1, v2, v3, rfl, r0, r1, r2, r3⟩ := h
  obtain ⟨n0, n1, n2, n3⟩ := hs
  obtain ⟨A0, c0, rfl, l0, q0⟩ := Kd.R_reads r0
  obtain ⟨A1, c1, rfl, l1, q1⟩ := Kd.R_reads r1
  obtain ⟨A2, c2, rfl, l2, q2⟩ := Kd.R_reads r2
  obtain ⟨A3, c3, rfl, l3, q3⟩ := Kd.R_reads r3
  have C0 := Aside0.mk q0
  have C1 := Aside0.mk q1
  have R1 := Aside0.mk r1
  have HI := Aside0.mk hin
  clear r0 r1 r2 r3 q0 q1 q2 q3 hin
  obtain ⟨n, hn⟩ : ∃ n, n = d.ino.length := ⟨_, rfl⟩
  have HN := Aside0.mk hn
  obtain ⟨m, hm⟩ : ∃ m, m = d.dir.length := ⟨_, rfl⟩
  have HM := Aside0.mk hm
  rw [← hn] at l0 n0 ⊢
  rw [← hm] at l1 n1 ⊢
  have hmk := make_nums n (by omega)
  clear hn hm
  go_enter Try.func74, Try.ntmps74
  go_wp2_with fail
  have hB := (((Below.refl w.heap.size w).alloc (Nat.le_refl _) (.cells #[.slice A0 n c0, .slice A1 m c1, .slice A2 d.dur.length c2, .slice A3 d.ops.length c3] 47)).alloc (by simp) (.cells #[.slice none 0 0, .slice none 0 0, .slice none 0 0, .slice none 0 0] 47)).alloc (by simp; omega) (.cells (ncells n (fun _ => 0)) 3)
  have hK := blk_alloc (blk_alloc (blk_new w (.cells #[.slice A0 n c0, .slice A1 m c1, .slice A2 d.dur.length c2, .slice A3 d.ops.length c3] 47)) (.cells #[.slice none 0 0, .slice none 0 0, .slice none 0 0, .slice none 0 0] 47)) (.cells (ncells n (fun _ => 0)) 3)
  have hR := blk_alloc (blk_new (w.alloc (.cells #[.slice A0 n c0, .slice A1 m c1, .slice A2 d.dur.length c2, .slice A3 d.ops.length c3] 47)) (.cells #[.slice none 0 0, .slice none 0 0, .slice none 0 0, .slice none 0 0] 47)) (.cells (ncells n (fun _ => 0)) 3)
  have hG := blk_new ((w.alloc (.cells #[.slice A0 n c0, .slice A1 m c1, .slice A2 d.dur.length c2, .slice A3 d.ops.length c3] 47)).alloc (.cells #[.slice none 0 0, .slice none 0 0, .slice none 0 0, .slice none 0 0] 47)) (.cells (ncells n (fun _ => 0)) 3)
  rw [show (w.alloc (.cells #[.slice A0 n c0, .slice A1 m c1, .slice A2 d.dur.length c2, .slice A3 d.ops.length c3] 47)).heap.size = w.heap.size + 1 by simp] at hR
  rw [show ((w.alloc (.cells #[.slice A0 n c0, .slice A1 m c1, .slice A2 d.dur.length c2, .slice A3 d.ops.length c3] 47)).alloc (.cells #[.slice none 0 0, .slice none 0 0, .slice none 0 0, .slice none 0 0] 47)).heap.size = w.heap.size + 1 + 1 by simp] at hG
  generalize ((w.alloc (.cells #[.slice A0 n c0, .slice A1 m c1, .slice A2 d.dur.length c2, .slice A3 d.ops.length c3] 47)).alloc (.cells #[.slice none 0 0, .slice none 0 0, .slice none 0 0, .slice none 0 0] 47)).alloc (.cells (ncells n (fun _ => 0)) 3) = W0 at hB hK hR hG ⊢
  obtain ⟨D, hD⟩ : ∃ D, D = w.heap.size := ⟨_, rfl⟩
  obtain ⟨S, hS⟩ : ∃ S, S = w.heap.size + 1 := ⟨_, rfl⟩
  obtain ⟨G, hGG⟩ : ∃ G, G = w.heap.size + 1 + 1 := ⟨_, rfl⟩
  have ED := Aside0.mk hD
  have ES := Aside0.mk hS
  have EG := Aside0.mk hGG
  rw [← hGG] at hG ⊢
  rw [← hS] at hR ⊢
  rw [← hD] at hK ⊢
  clear hD hS hGG
  have HB := Aside0.mk hB
  have HK := Aside0.mk hK
  have HR := Aside0.mk hR
  have HG : Aside0 (Nums W0 G n (fun _ => 0)) := ⟨hG⟩
  clear hB hK hR hG
  go_loopg [17] m (fun kx s17 wr => ∃ i : Nat, s17 = .int .i64 i ∧ i ≤ m ∧ m - i ≤ kx ∧ Aside0 (Below w.heap.size w wr) ∧ Aside0 (wr.heap[D]? = some (.cells #[.slice A0 n c0, .slice A1 m c1, .slice A2 d.dur.length c2, .slice A3 d.ops.length c3] 47 (0, 0))) ∧ Aside0 (wr.heap[S]? = some (.cells #[.slice none 0 0, .slice none 0 0, .slice none 0 0, .slice none 0 0] 47 (0, 0))) ∧ Aside0 (Nums wr G n (fun j => if marked (d.dir.take i) j = true then 1 else 0)))
  case atStart => exact ⟨0, rfl, Nat.zero_le _, by omega, HB, HK, HR, ⟨by simpa [marked] using HG.out⟩⟩
  case round =>
    clear HB HK HR HG
    obtain ⟨i, rfl, hi, hk, HB, HK, HR, HG⟩ := hrel
    by_cases hlt : i < m
    · obtain ⟨ad, ea, hx0, hx1⟩ := at_T69 C1.out (i : Int) (by omega) (by have := HM.out; omega)
      cases ea
      obtain ⟨y, hy⟩ : ∃ y, y = rd_T69 d.dir (i : Int) := ⟨_, rfl⟩
      rw [← hy] at hx0 hx1
      replace hx0 : wr.cell? (ad.add (i * 2)) = some (.string y.f0) := (HB.out.cell (World.block_lt_of_cell? w _ hx0)).trans hx0
      replace hx1 : wr.cell? ⟨(ad.add (i * 2)).block, (ad.add (i * 2)).off + 1, none⟩ = some (.int .i64 y.f1) := (HB.out.cell (World.block_lt_of_cell? w _ hx1)).trans hx1
      have hil : i < d.dir.length := by have := HM.out; omega
      have hyi : d.dir[i] = y := by
        rw [hy]
        show _ = d.dir.getD i z69
        rw [Dk.getD_eq hil]
      obtain ⟨hy0, hy1⟩ := HI.out y (hyi ▸ List.getElem_mem hil)
      obtain ⟨j, hj⟩ : ∃ j : Nat, y.f1 = (j : Int) := ⟨y.f1.toNat, (Int.toNat_of_nonneg hy0).symm⟩
      have hjn : j < n := by have := HN.out; omega
      have MT := Aside0.mk (fun k => Dk.marked_take d.dir i hil k)
      rw [hyi, hj] at MT
      rw [hj] at hx1
      clear hy hyi hy0 hy1 hj hil
      have kB := below_alloc HB.out (.cells #[.string y.f0, .int .i64 (j : Nat)] 69)
      have kK := blk_alloc HK.out (.cells #[.string y.f0, .int .i64 (j : Nat)] 69)
      have kR := blk_alloc HR.out (.cells #[.string y.f0, .int .i64 (j : Nat)] 69)
      have kG : Nums (wr.alloc (.cells #[.string y.f0, .int .i64 (j : Nat)] 69)) G n _ := blk_alloc HG.out (.cells #[.string y.f0, .int .i64 (j : Nat)] 69)
      have y1 : (wr.alloc (.cells #[.string y.f0, .int .i64 (j : Nat)] 69)).cell? ⟨wr.heap.size, 1, none⟩ = some (.int .i64 (j : Nat)) := (blk_cell (blk_new wr (.cells #[.string y.f0, .int .i64 (j : Nat)] 69)) 1).trans rfl
      have zg := kG.cell hjn
      have fg := blk_frozen kG j
      have KB := Aside0.mk kB
      have KK := Aside0.mk kK
      have KR := Aside0.mk kR
      have KG : Aside0 (Nums _ G n _) := Aside0.mk kG
      have hjj : (j : Int) < (n : Int) := by omega
      have hj0 : (0 : Int) ≤ (j : Int) := by omega
      clear kB kK kR kG HB HK HR HG
      have hDG : D ≠ G := by have := ED.out; have := EG.out; omega
      have hSG : S ≠ G := by have := ES.out; have := EG.out; omega
      have hGw : w.heap.size ≤ G := by have := EG.out; omega
      go_wp2
      go_roundg (m - i - 1)
      case measure => omega
      case rel => exact ⟨i + 1, by first | rfl | (simp; done), hlt, by omega, ⟨KB.out.setCell hGw _⟩, ⟨blk_far KK.out hDG _⟩, ⟨blk_far KR.out hSG _⟩, ⟨KG.out.set hjn 1 (fun k => by
        rw [MT.out]
        by_cases e : k = j
        · subst e; simp
        · rw [if_neg e]
          have e2 : ¬ ((j : Int) = (k : Int)) := by omega
          simp [e2])⟩⟩
    · have G1 : Aside0 (Nums wr G n (atTo d.dir 0)) := ⟨by
        have := HG.out
        rw [List.take_of_length_le (by have := HM.out; omega)] at this
        have e : (fun j => if marked d.dir j = true then (1 : Int) else 0) = atTo d.dir 0 := funext fun j => by simp [Dk.atTo]
        rwa [e] at this⟩
      have z0 : wr.cell? ⟨D, 0, none⟩ = some (.slice A0 n c0) := (blk_cell HK.out 0).trans rfl
      clear HG
      go_wp2_with fail
      go_loopg [29, 6] n (fun kx s29 s6 wq => ∃ (i : Nat) (v : Value), s29 = .int .i64 i ∧ v = s6 ∧ i ≤ n ∧ n - i ≤ kx ∧ Aside0 (Below w.heap.size w wq) ∧ Aside0 (wq.heap[D]? = some (.cells #[.slice A0 n c0, .slice A1 m c1, .slice A2 d.dur.length c2, .slice A3 d.ops.length c3] 47 (0, 0))) ∧ Aside0 (wq.heap[S]? = some (.cells #[.slice none 0 0, .slice none 0 0, .slice none 0 0, .slice none 0 0] 47 (0, 0))) ∧ Aside0 (Nums wq G n (atTo d.dir i)) ∧ Aside0 (Kd.R k67 67 wq w.heap.size (fun _ => True) v (keptTo d.dir d.ino i)))
      case atStart => exact ⟨0, _, rfl, rfl, Nat.zero_le _, by omega, HB, HK, HR, G1, ⟨Kd.R_nil _ _ _ _ _⟩⟩
      case round =>
        clear HB HK HR G1 z0
        obtain ⟨i2, vk, rfl, rfl, hi2, hk2, HB, HK, HR, HG, HO⟩ := hrel
        by_cases hlt2 : i2 < n
        · obtain ⟨ad, ea, hx0, hx1⟩ := at_T67 C0.out (i2 : Int) (by omega) (by have := HN.out; omega)
          cases ea
          obtain ⟨y, hy⟩ : ∃ y, y = rd_T67 d.ino (i2 : Int) := ⟨_, rfl⟩
          rw [← hy] at hx0 hx1
          replace hx0 : wr.cell? (ad.add (i2 * 2)) = some (.string y.f0) := (HB.out.cell (World.block_lt_of_cell? w _ hx0)).trans hx0
          replace hx1 : wr.cell? ⟨(ad.add (i2 * 2)).block, (ad.add (i2 * 2)).off + 1, none⟩ = some (.int .i64 y.f1) := (HB.out.cell (World.block_lt_of_cell? w _ hx1)).trans hx1
          have Y := Aside0.mk (show d.ino.getD i2 z67 = y from by rw [hy]; rfl)
          clear hy
          have kB := below_alloc HB.out (.cells #[.string y.f0, .int .i64 y.f1] 67)
          have kK := blk_alloc HK.out (.cells #[.string y.f0, .int .i64 y.f1] 67)
          have kR := blk_alloc HR.out (.cells #[.string y.f0, .int .i64 y.f1] 67)
          have kG : Nums (wr.alloc (.cells #[.string y.f0, .int .i64 y.f1] 67)) G n _ := blk_alloc HG.out (.cells #[.string y.f0, .int .i64 y.f1] 67)
          have kX := blk_new wr (.cells #[.string y.f0, .int .i64 y.f1] 67)
          have kO := Kd.R_below HO.out ((Below.refl wr.heap.size wr).alloc (Nat.le_refl _) (.cells #[.string y.f0, .int .i64 y.f1] 67))
          obtain ⟨X, hX⟩ : ∃ X, X = wr.heap.size := ⟨_, rfl⟩
          have y0 : (wr.alloc (.cells #[.string y.f0, .int .i64 y.f1] 67)).cell? ⟨wr.heap.size, 0, none⟩ = some (.string y.f0) := (blk_cell kX 0).trans rfl
          have y1 : (wr.alloc (.cells #[.string y.f0, .int .i64 y.f1] 67)).cell? ⟨wr.heap.size, 1, none⟩ = some (.int .i64 y.f1) := (blk_cell kX 1).trans rfl
          have zg := kG.cell hlt2
          have fg := blk_frozen kG i2
          have hjj : (i2 : Int) < (n : Int) := by omega
          have hj0 : (0 : Int) ≤ (i2 : Int) := by omega
          obtain ⟨b, hb⟩ : ∃ b, b = marked d.dir i2 := ⟨_, rfl⟩
          have HBb := Aside0.mk hb
          have hz : atTo d.dir i2 i2 = if b = true then 1 else 0 := by rw [hb]; unfold Dk.atTo; simp
          rw [hz] at zg
          have KB := Aside0.mk kB
          have KK := Aside0.mk kK
          have KR := Aside0.mk kR
          have KG : Aside0 (Nums _ G n _) := Aside0.mk kG
          have KX := Aside0.mk kX
          have KO := Aside0.mk kO
          clear kB kK kR kG kX kO HB HK HR HG HO hb hz
          cases b with
          | false =>
            replace zg : (wr.alloc (.cells #[.string y.f0, .int .i64 y.f1] 67)).cell? ⟨G, i2, none⟩ = some (.int .i64 0) := zg
            clear hX
            go_wp2
            go_roundg (n - i2 - 1)
            case measure => omega
            case rel => exact ⟨i2 + 1, _, by first | rfl | (simp; done), rfl, hlt2, by omega, KB, KK, KR, ⟨by
              have e : atTo d.dir i2 = atTo d.dir (i2 + 1) := funext fun j => Dk.atTo_skip _ _ HBb.out.symm j
              rw [← e]; exact KG.out⟩, ⟨by rw [Dk.keptTo_succ, ← HBb.out]; simpa using KO.out⟩⟩
          | true =>
            replace zg : (wr.alloc (.cells #[.string y.f0, .int .i64 y.f1] 67)).cell? ⟨G, i2, none⟩ = some (.int .i64 1) := zg
            obtain ⟨Ak, ck, rfl⟩ := Kd.R_slice KO.out
            have LK := Aside0.mk (Dk.keptTo_length d.dir d.ino i2)
            have hln : (keptTo d.dir d.ino i2).length ≤ 1000000 := by rw [LK.out]; have := Dk.num_le d.dir i2; omega
            clear hX
            have hDG : D ≠ G := by have := ED.out; have := EG.out; omega
            have hSG : S ≠ G := by have := ES.out; have := EG.out; omega
            have hGw : w.heap.size ≤ G := by have := EG.out; omega
            have hXG : wr.heap.size ≠ G := blk_ne KX.out KG.out (by decide)
            go_upto_region 13 with fail
            have kB := KB.out.setCell (p := ⟨G, i2, none⟩) hGw (.int .i64 ((keptTo d.dir d.ino i2).length : Nat))
            have kK := blk_far KK.out (p := ⟨G, i2, none⟩) hDG (.int .i64 ((keptTo d.dir d.ino i2).length : Nat))
            have kR := blk_far KR.out (p := ⟨G, i2, none⟩) hSG (.int .i64 ((keptTo d.dir d.ino i2).length : Nat))
            have kX := blk_far KX.out (p := ⟨G, i2, none⟩) hXG (.int .i64 ((keptTo d.dir d.ino i2).length : Nat))
            have kG : Nums _ G n (atTo d.dir (i2 + 1)) := KG.out.set hlt2 ((keptTo d.dir d.ino i2).length : Nat) (fun k => by rw [LK.out]; exact Dk.atTo_set _ _ HBb.out.symm k)
            have kO := Kd.R_set KO.out KG.out (by decide) i2 (.int .i64 ((keptTo d.dir d.ino i2).length : Nat))
            generalize (wr.alloc (.cells #[.string y.f0, .int .i64 y.f1] 67)).setCell ⟨G, i2, none⟩ (.int .i64 ((keptTo d.dir d.ino i2).length : Nat)) = W2 at kB kK kR kX kG kO ⊢
            obtain ⟨X, hX⟩ : ∃ X, X = wr.heap.size := ⟨_, rfl⟩
            rw [← hX] at kX ⊢
            have y0 : W2.cell? ⟨X, 0, none⟩ = some (.string y.f0) := (blk_cell kX 0).trans rfl
            have y1 : W2.cell? ⟨X, 1, none⟩ = some (.int .i64 y.f1) := (blk_cell kX 1).trans rfl
            have QB := Aside0.mk (below_alloc kB (.cells #[.string y.f0, .int .i64 y.f1] 67))
            have QK := Aside0.mk (blk_alloc kK (.cells #[.string y.f0, .int .i64 y.f1] 67))
            have QR := Aside0.mk (blk_alloc kR (.cells #[.string y.f0, .int .i64 y.f1] 67))
            have QG : Aside0 (Nums _ G n (atTo d.dir (i2 + 1))) := ⟨blk_alloc kG (.cells #[.string y.f0, .int .i64 y.f1] 67)⟩
            have QO := Aside0.mk (Kd.R_below kO ((Below.refl W2.heap.size W2).alloc (Nat.le_refl _) (.cells #[.string y.f0, .int .i64 y.f1] 67)))
            have QX := Aside0.mk (C67_one (blk_new W2 (.cells #[.string y.f0, .int .i64 y.f1] 67)))
            have QS := Aside0.mk (Nat.le_trans kB.size ((Below.refl W2.heap.size W2).alloc (Nat.le_refl _) (.cells #[.string y.f0, .int .i64 y.f1] 67)).size)
            clear kB kK kR kX kG kO hX KB KK KR KG KX KO
            go_wp2_with (at_builtin; go_loud (refine Kd.R_append_rows k67 (Rr := k67.K _) (w0 := w) w.heap.size rfl _ _ 43 67 (.agg #[.string ⟨#[]⟩, .int .i64 0]) 24 rfl Try.underlying43 info67 rfl (by decide) (by decide) (.slice Ak (keptTo d.dir d.ino i2).length ck) (keptTo d.dir d.ino i2) [y] (some ⟨W2.heap.size, 0, none⟩) 1 1 (fun _ => True) (fun _ => False) rfl rfl QO.out QX.out ?q2 ?q3 ?q4 QB.out QS.out ?q7 ?_); (case q2 => intro y cs h; obtain rfl := k67_open h; exact k67_mkM _ _ _ _); (case q3 => intro k h; exact h.elim); (case q4 => intro k hk; trivial); (case q7 => omega); intro v1 w1 h1 h2 h3 h4; have H1 := Aside0.mk h1; have H2 := Aside0.mk h2; have H3 := Aside0.mk h3; clear h1 h2 h3 h4)
            go_roundg (n - i2 - 1)
            case measure => omega
            case rel => exact ⟨i2 + 1, v1, by first | rfl | (simp; done), rfl, hlt2, by omega, H2, ⟨blk_grown QK.out H3.out (Kd.R_ne QO.out QK.out (by decide))⟩, ⟨blk_grown QR.out H3.out (Kd.R_ne QO.out QR.out (by decide))⟩, ⟨blk_grown QG.out H3.out (Kd.R_ne QO.out QG.out (by decide))⟩, ⟨by rw [Dk.keptTo_succ, ← HBb.out, Y.out]; exact H1.out⟩⟩
        · have G2 : Aside0 (Nums wr G n (atTo d.dir n)) := ⟨by
            have := HG.out
            rwa [show i2 = n by omega] at this⟩
          have O2 : Aside0 (Kd.R k67 67 wr w.heap.size (fun _ => True) vk (keptTo d.dir d.ino n)) := ⟨by
            have := HO.out
            rwa [show i2 = n by omega] at this⟩
          have R2 := Aside0.mk (Kd.R_mono (Kd.R_below R1.out HB.out) (ok' := fun _ => True) (fun _ _ => trivial))
          have BT : Aside0 (Below T w wr) := ⟨⟨HB.out.os, HB.out.tape, HB.out.output, HB.out.size, fun k hk => HB.out.block k (Nat.lt_of_lt_of_le hk hT)⟩⟩
          have SZ := Aside0.mk HB.out.size
          have KT : Aside0 (KeepT [69] w wr) := ⟨KeepT.of_below HB.out⟩
          have z1 : wr.cell? ⟨D, 1, none⟩ = some (.slice A1 m c1) := (blk_cell HK.out 1).trans rfl
          clear HG HO HB
          go_wp2_with fail
          go_loopg [52] m (fun kx s52 wq => ∃ i : Nat, s52 = .int .i64 i ∧ i ≤ m ∧ m - i ≤ kx ∧ Aside0 (Below T w wq) ∧ Aside0 (KeepT [69] w wq) ∧ Aside0 (w.heap.size ≤ wq.heap.size) ∧ Aside0 (wq.heap[D]? = some (.cells #[.slice A0 n c0, .slice A1 m c1, .slice A2 d.dur.length c2, .slice A3 d.ops.length c3] 47 (0, 0))) ∧ Aside0 (wq.heap[S]? = some (.cells #[.slice none 0 0, .slice none 0 0, .slice none 0 0, .slice none 0 0] 47 (0, 0))) ∧ Aside0 (Nums wq G n (atTo d.dir n)) ∧ Aside0 (Kd.R k67 67 wq w.heap.size (fun _ => True) vk (keptTo d.dir d.ino n)) ∧ Aside0 (Kd.R k69 69 wq T (fun _ => True) (.slice A1 m c1) ((d.dir.take i).map (ren d.dir) ++ d.dir.drop i)))
          case atStart => exact ⟨0, rfl, Nat.zero_le _, by omega, BT, KT, SZ, HK, HR, G2, O2, ⟨by have := R2.out; rw [← HM.out] at this; simpa using this⟩⟩
          case round =>
            clear BT KT SZ HK HR G2 O2 R2 z1
            obtain ⟨i3, rfl, hi3, hk3, BT, KT, SZ, HK, HR, HG, HO, HD⟩ := hrel
            by_cases hlt3 : i3 < m
            · have hil : i3 < d.dir.length := by have := HM.out; omega
              have hl : ((d.dir.take i3).map (ren d.dir) ++ d.dir.drop i3).length = m := by rw [List.length_append, List.length_map, List.length_take, List.length_drop]; have := HM.out; omega
              obtain ⟨g1, cur, e1, hh⟩ := R69_block HD.out (by omega)
              subst e1
              have hc2 := (R69_cells HD.out i3 (by omega)).2
              have ei : ((d.dir.take i3).map (ren d.dir) ++ d.dir.drop i3)[i3] = d.dir[i3] := by
                rw [List.getElem_append_right (by simp; omega), List.getElem_drop]
                congr 1
                simp; omega
              rw [ei] at hc2
              obtain ⟨y, hy⟩ : ∃ y, y = d.dir[i3] := ⟨_, rfl⟩
              obtain ⟨hy0, hy1⟩ := HI.out y (hy ▸ List.getElem_mem hil)
              obtain ⟨j, hj⟩ : ∃ j : Nat, y.f1 = (j : Int) := ⟨y.f1.toNat, (Int.toNat_of_nonneg hy0).symm⟩
              have hjn : j < n := by have := HN.out; omega
              have hat : atTo d.dir n j = ((num d.dir j : Nat) : Int) := by
                unfold Dk.atTo
                rw [if_pos (Dk.marked_mem (hy ▸ List.getElem_mem hil) hj), if_pos hjn]
              have zg := HG.out.cell hjn
              rw [hat] at zg
              rw [← hy, hj] at hc2
              have hrow := R69_set HD.out hl i3 (by omega) ((num d.dir j : Nat) : Int)
              have enew : ((d.dir.take i3).map (ren d.dir) ++ d.dir.drop i3).set i3 ⟨((d.dir.take i3).map (ren d.dir) ++ d.dir.drop i3)[i3].f0, ((num d.dir j : Nat) : Int)⟩ = (d.dir.take (i3 + 1)).map (ren d.dir) ++ d.dir.drop (i3 + 1) := by
                rw [ei, ← hy, List.set_append_right _ _ (by simp; omega), List.take_succ_eq_append_getElem hil, List.map_append, List.append_assoc, List.drop_eq_getElem_cons hil, ← hy]
                congr 1
                rw [show i3 - ((d.dir.take i3).map (ren d.dir)).length = 0 by simp; omega, List.set_cons_zero]
                simp only [List.map_cons, List.map_nil, List.singleton_append]
                congr 1
                unfold Dk.ren
                rw [hj, Int.toNat_natCast]
              rw [enew] at hrow
              have ROW := Aside0.mk hrow
              have hTg : T ≤ g1 := own_base (R69_own HD.out) g1 rfl
              have hgD : g1 ≠ D := blk_ne hh HK.out (by decide)
              have hgS : g1 ≠ S := blk_ne hh HR.out (by decide)
              have hgG : g1 ≠ G := blk_ne hh HG.out (by decide)
              have HH := Aside0.mk hh
              have ff := blk_frozen hh (i3 * 2 + 1)
              have z1 : wr.cell? ⟨D, 1, none⟩ = some (.slice (some ⟨g1, 0, none⟩) m c1) := (blk_cell HK.out 1).trans rfl
              have hj0 : (0 : Int) ≤ (j : Int) := by omega
              have hj1 : (j : Int) < (n : Int) := by omega
              have hi0 : (0 : Int) ≤ (i3 : Int) := by omega
              have hi1 : (i3 : Int) < (m : Int) := by omega
              clear hrow enew hh hy hy0 hy1 hj hat ei hl hil
              go_wp2_with fail
              go_still_tail 14, (by kernel_rfl)
              change wpList _ _ _ _ _ wr.drew
              go_wp2
              go_roundg (m - i3 - 1)
              case measure => omega
              case rel => exact ⟨i3 + 1, by first | rfl | (simp; done), hlt3, by omega, ⟨below_drew (BT.out.setCell (p := ⟨g1, i3 * 2 + 1, none⟩) hTg _)⟩, ⟨KeepT.drew (KT.out.set HH.out (by decide) _ _)⟩, ⟨by have := SZ.out; simpa [World.setCell] using this⟩, ⟨blk_drew (blk_far HK.out (Ne.symm hgD) _)⟩, ⟨blk_drew (blk_far HR.out (Ne.symm hgS) _)⟩, ⟨blk_drew (blk_far HG.out (Ne.symm hgG) _)⟩, ⟨Kd.R_drew (Kd.R_set HO.out HH.out (by decide) (i3 * 2 + 1) _)⟩, ⟨Kd.R_drew ROW.out⟩⟩
            · have ROW := Aside0.mk (show Kd.R k69 69 wr T (fun _ => True) (.slice A1 m c1) (d.dir.map (ren d.dir)) from by
                have := HD.out
                rwa [List.take_of_length_le (by have := HM.out; omega), List.drop_of_length_le (by have := HM.out; omega), List.append_nil] at this)
              have lr : (d.dir.map (ren d.dir)).length = m := by rw [List.length_map]; exact HM.out.symm
              have CC := Aside0.mk (fun w' hC => clone69_calls A1 c1 (d.dir.map (ren d.dir)) w' hC (by omega) (by omega))
              have RD := Aside0.mk (show Kd.C k69 wr A1 (d.dir.map (ren d.dir)).length (d.dir.map (ren d.dir)) from by
                obtain ⟨A, c', e, _, hr⟩ := Kd.R_reads ROW.out
                injection e with e1 _ _
                subst e1
                exact hr)
              rw [lr] at CC RD
              have LR := Aside0.mk lr
              have z1 : wr.cell? ⟨D, 1, none⟩ = some (.slice A1 m c1) := (blk_cell HK.out 1).trans rfl
              obtain ⟨rn, hrn⟩ : ∃ rn, rn = d.dir.map (ren d.dir) := ⟨_, rfl⟩
              rw [← hrn] at CC RD ROW LR
              have RN := Aside0.mk hrn
              have BW := Aside0.mk (Below.refl wr.heap.size wr)
              obtain ⟨Ak, ck, rfl⟩ := Kd.R_slice HO.out
              have hSD : S ≠ D := by have := ES.out; have := ED.out; omega
              have hDS : D ≠ S := fun e => hSD e.symm
              clear HD hrn lr
              go_wp2_with fail
              go_region_held3 (fun w' => w'.cell? ⟨D, 1, none⟩ = some (.slice A1 m c1)) (first | go_keep | exact (blk_cell HK.out 1).trans rfl)
                (first | (go_at_call 90; refine (CC.out _ (Kd.C_below RD.out (by first | exact BW.out | exact BW.out.drew))).mono ?_; rintro e w1 ⟨v1, rfl, h1, h2⟩; obtain ⟨B1, e1, hv1⟩ := Kd.R_slice h1; subst hv1; have O1 := Aside0.mk h1; have BN := Aside0.mk (below_step (by first | exact BW.out | exact BW.out.drew) h2); have n_ := Aside0.mk (blk_below (o := .cells #[.slice A0 n c0, .slice A1 m c1, .slice A2 d.dur.length c2, .slice A3 d.ops.length c3] 47 (0, 0)) (by first | exact HK.out | exact blk_drew HK.out) h2); clear HK; have HK := n_; have KS := Aside0.mk (blk_below (o := .cells #[.slice none 0 0, .slice none 0 0, .slice none 0 0, .slice none 0 0] 47 (0, 0)) (by first | exact HR.out | exact blk_drew HR.out) h2); have s0 := (blk_cell KS.out 0).trans rfl; have s1 := (blk_cell KS.out 1).trans rfl; have s2 := (blk_cell KS.out 2).trans rfl; have s3 := (blk_cell KS.out 3).trans rfl; have f0 := blk_frozen KS.out 0; have f1 := blk_frozen KS.out 1; have f2 := blk_frozen KS.out 2; have f3 := blk_frozen KS.out 3; clear n_ h1 h2))
              rename_i hq
              clear hq s0 s1 s2 s3 f0 f1 f2 f3 z1
              have D0 : DR w1 T (.agg #[.slice Ak (keptTo d.dir d.ino n).length ck, .slice A1 m c1, .slice B1 rn.length e1, .slice none 0 0]) (Dk.settle d) := by
                have ob := R69_own ROW.out
                obtain ⟨iq, hiq⟩ := Kd.R_own O1.out
                refine ⟨_, _, _, _, rfl, ?_, ?_, ?_, Kd.R_nil _ _ _ _ _⟩
                · have := Kd.R_lower (Kd.R_below HO.out BN.out) hT
                  rw [HN.out] at this
                  rw [HN.out]
                  exact this
                · have := Kd.R_mono (ok' := fun k => some k ≠ (Value.slice B1 rn.length e1).ownBlock) (Kd.R_below (Kd.R_bound ROW.out) BN.out) (fun k hk he => by have u1 : wr.heap.size ≤ k := own_base hiq k he.symm; have u2 := hk.2.2.1; omega)
                  rw [RN.out] at this ⊢
                  exact this
                · have := Kd.R_mono (ok' := fun k => some k ≠ (Value.slice A1 m c1).ownBlock) (Kd.R_bound O1.out) (fun k hk he => by have u1 := own_lt ob k he.symm; have u2 : wr.heap.size ≤ k := hk.2.1; omega)
                  rw [RN.out] at this ⊢
                  exact Kd.R_lower this (Nat.le_trans hT SZ.out)
              have q0 := KS.out
              have q1 := blk_put q0 0 (.slice Ak (keptTo d.dir d.ino n).length ck) rfl
              have q2 := blk_put q1 1 (.slice A1 m c1) rfl
              have q3 := blk_put q2 2 (.slice B1 rn.length e1) rfl
              have q4 := blk_put q3 3 (.slice none 0 0) rfl
              have D4 := Aside0.mk (DR.set47 (DR.set47 (DR.set47 (DR.set47 D0 q0 0 (.slice Ak (keptTo d.dir d.ino n).length ck)) q1 1 (.slice A1 m c1)) q2 2 (.slice B1 rn.length e1)) q3 3 (.slice none 0 0))
              have Q4 := Aside0.mk q4
              have hTS : T ≤ S := by have := ES.out; omega
              have BT1 : Below T w w1 := below_then BT.out (Nat.le_trans hT SZ.out) BN.out
              have HB2 := Aside0.mk ((((BT1.setCell (p := ⟨S, 0, none⟩) hTS (.slice Ak (keptTo d.dir d.ino n).length ck)).setCell (p := ⟨S, 1, none⟩) hTS (.slice A1 m c1)).setCell (p := ⟨S, 2, none⟩) hTS (.slice B1 rn.length e1)).setCell (p := ⟨S, 3, none⟩) hTS (.slice none 0 0))
              have hwS : w.heap.size ≤ S := by have := ES.out; omega
              have KT2 := Aside0.mk (((((KT.out.below BN.out).set_new hwS 0 (.slice Ak (keptTo d.dir d.ino n).length ck)).set_new hwS 1 (.slice A1 m c1)).set_new hwS 2 (.slice B1 rn.length e1)).set_new hwS 3 (.slice none 0 0))
              clear D0 q0 q1 q2 q3 q4 BT1
              go_wp2
              refine bodyPost_ret (results_cell_row rfl _ _ S 47 _ (0, 0) _ rfl Q4.out Try.underlying47 rfl (by kernel_rfl)) rfl ?_
              exact ⟨_, rfl, D4.out, HB2.out, KT2.out⟩
end Go.Proofs.Ytnaddmkaakdhoaa.J

end
section
namespace Go.Proofs.Ytnaddmkaakdhoaa.J
open Go.RowKit Go.Proofs.YtnaddmkaakdhoaaW.PrintWords Go.Proofs.YtnaddmkaakdhoaaW.PrintLast Go.Proofs.YtnaddmkaakdhoaaW.PrintMore
set_option linter.unusedVariables false
set_option linter.unusedSimpArgs false
theorem getD67 {l : List S67} {i : Nat} (h : i < l.length) : l.getD i z67 = l[i] := by
  rw [List.getD_eq_getElem?_getD, List.getElem?_eq_getElem h]; rfl
def cs67 : List S67 → List Value
  | [] => []
  | x :: l => .string x.f0 :: .int .i64 x.f1 :: cs67 l
theorem cs67_len : ∀ l, (cs67 l).length = l.length * 2
  | [] => rfl
  | x :: l => by simp [cs67, cs67_len l]; omega
theorem cs67_take : ∀ (l : List S67) (i : Nat), cs67 (l.take i) = (cs67 l).take (i * 2)
  | [], i => by simp [cs67]
  | x :: l, 0 => by simp [cs67]
  | x :: l, i + 1 => by rw [List.take_succ_cons, cs67, cs67_take l i, show (i + 1) * 2 = i * 2 + 1 + 1 by omega]; rfl
theorem cs67_drop : ∀ (l : List S67) (i : Nat), cs67 (l.drop i) = (cs67 l).drop (i * 2)
  | [], i => by simp [cs67]
  | x :: l, 0 => by simp [cs67]
  | x :: l, i + 1 => by rw [List.drop_succ_cons, cs67_drop l i, show (i + 1) * 2 = i * 2 + 1 + 1 by omega]; rfl
theorem reps67 {w : World} {T : Nat} {ok : Nat → Prop} : ∀ (l : List S67), Reps (k67.M w T ok) 2 l (cs67 l)
  | l => ⟨cs67_len l, fun j p hj => by
    have e : (cs67 l).drop (j * 2) = cs67 (l.drop j) := (cs67_drop l j).symm
    have e2 : (cs67 (l.drop j)).take (1 * 2) = cs67 ((l.drop j).take 1) := (cs67_take _ 1).symm
    have hl : j < l.length := (List.getElem?_eq_some_iff.1 hj).1
    have hp : l[j] = p := (List.getElem?_eq_some_iff.1 hj).2
    rw [e, show (2 : Nat) = 1 * 2 from rfl, e2, List.drop_eq_getElem_cons hl, hp]
    exact k67_mkM w T ok p⟩
theorem reps67_eq {w : World} {T : Nat} {ok : Nat → Prop} : ∀ (l : List S67) (cs : List Value), Reps (k67.M w T ok) 2 l cs → cs = cs67 l
  | [], cs, h => List.eq_nil_of_length_eq_zero (by simpa using h.1)
  | x :: l, cs, h => by
    have h0 := k67_openM (h.2 0 x rfl)
    simp only [Nat.zero_mul, List.drop_zero] at h0
    have h1 : Reps (k67.M w T ok) 2 l (cs.drop 2) := ⟨by rw [List.length_drop, h.1]; simp; omega, fun j p hj => by
      rw [List.drop_drop]
      have := h.2 (j + 1) p (by simpa using hj)
      rwa [show (j + 1) * 2 = 2 + j * 2 by omega] at this⟩
    have h2 := reps67_eq l _ h1
    rw [← List.take_append_drop 2 cs, h0, h2]
    rfl
theorem R67_own {w : World} {T : Nat} {P : Nat → Prop} {v : Value} {l : List S67} (h : Kd.R k67 67 w T P v l) : w.ownsRow T 67 2 v l.length (cs67 l) := by
  obtain ⟨_, inner, ho, hr⟩ := h
  rw [← reps67_eq l inner hr]
  exact ho
theorem R67_of {w : World} {T n : Nat} {P : Nat → Prop} {v : Value} {l : List S67} (h : w.ownsRow T 67 2 v n (cs67 l)) (hn : l.length = n) (hP : ∀ k, v.ownBlock = some k → P k) : Kd.R k67 67 w T P v l := by
  subst hn
  exact ⟨hP, cs67 l, h, reps67 l⟩

theorem R67_cells {w : World} {T : Nat} {P : Nat → Prop} {g c n : Nat} {l : List S67} (h : Kd.R k67 67 w T P (.slice (some ⟨g, 0, none⟩) n c) l) (i : Nat) (hi : i < l.length) : w.cell? ⟨g, i * 2, none⟩ = some (.string l[i].f0) ∧ w.cell? ⟨g, i * 2 + 1, none⟩ = some (.int .i64 l[i].f1) := by
  obtain ⟨A, c', e, _, hr⟩ := Kd.R_reads h
  injection e with e1 _ _
  subst e1
  obtain ⟨ad, ea, h0, h1⟩ := at_T67 hr (i : Int) (by omega) (by omega)
  injection ea with ea
  subst ea
  rw [show rd_T67 l (i : Int) = l[i] from getD67 hi] at h0 h1
  rw [Int.toNat_natCast, Addr.add_lit, Nat.zero_add] at h0 h1
  exact ⟨h0, h1⟩
theorem R67_block {w : World} {T : Nat} {P : Nat → Prop} {A : Option Addr} {n c : Nat} {l : List S67} (h : Kd.R k67 67 w T P (.slice A n c) l) (h0 : 0 < l.length) : ∃ g cur, A = some ⟨g, 0, none⟩ ∧ w.heap[g]? = some (.cells cur 67 (0, 0)) := by
  rcases (R67_own h).2 with ⟨_, e⟩ | ⟨g', cap, cur, e, hg, hh, _⟩
  · rw [e] at h0; exact absurd h0 (Nat.lt_irrefl _)
  · injection e with e _ _
    exact ⟨g', cur, e, hh⟩
theorem cs67_set1 : ∀ (l : List S67) (i : Nat) (m : Int) (h : i < l.length), (cs67 l).set (i * 2 + 1) (.int .i64 m) = cs67 (l.set i ⟨l[i].f0, m⟩)
  | x :: l, 0, m, _ => rfl
  | x :: l, i + 1, m, h => by
    have := cs67_set1 l i m (by simpa using h)
    rw [List.set_cons_succ, cs67, cs67, show (i + 1) * 2 + 1 = i * 2 + 1 + 1 + 1 by omega]
    simpa using this
theorem cs67_set0 : ∀ (l : List S67) (i : Nat) (m : ByteArray) (h : i < l.length), (cs67 l).set (i * 2) (.string m) = cs67 (l.set i ⟨m, l[i].f1⟩)
  | x :: l, 0, m, _ => rfl
  | x :: l, i + 1, m, h => by
    have := cs67_set0 l i m (by simpa using h)
    rw [List.set_cons_succ, cs67, cs67, show (i + 1) * 2 = i * 2 + 1 + 1 by omega]
    simpa using this
theorem R67_put {w : World} {T : Nat} {P : Nat → Prop} {g c n : Nat} {l l' : List S67} (h : Kd.R k67 67 w T P (.slice (some ⟨g, 0, none⟩) n c) l) (hn : l.length = n) (hl : l'.length = n) (j : Nat) (u : Value) (e : (cs67 l).set j u = cs67 l') : Kd.R k67 67 (w.setCell ⟨g, j, none⟩ u) T P (.slice (some ⟨g, 0, none⟩) n c) l' := by
  subst hn
  have ho := R67_own h
  refine R67_of (n := l.length) ?_ hl h.1
  refine ⟨by rw [cs67_len, hl], ?_⟩
  rcases ho.2 with ⟨e, _⟩ | ⟨g', cap, cur, e', hg, hh, hnc, hcm, hcs, htk⟩
  · injection e with e; cases e
  · injection e' with e1 _ e2
    injection e1 with e1
    injection e1 with e1
    subst e1
    subst e2
    refine .inr ⟨g, c, _, rfl, hg, blk_set hh _ _, hnc, hcm, by rw [Array.size_setIfInBounds]; exact hcs, ?_⟩
    rw [Array.toList_setIfInBounds, List.take_set, htk]
    exact e
theorem C49_one {w : World} {vb : Nat} {x : S49} (h : w.heap[vb]? = some (.cells #[.int .i64 x.f0, .string x.f1, .string x.f2, .string x.f3] 49 (0, 0))) : Kd.C k49 w (some ⟨vb, 0, none⟩) 1 [x] :=
  ⟨rfl, by omega, fun _ => ⟨_, rfl, fun j p hj => by
    obtain rfl : j = 0 := by have := (List.getElem?_eq_some_iff.1 hj).1; simp at this; exact this
    obtain rfl : x = p := by simpa using hj
    refine ⟨_, rfl, k49_mk w x, fun i u hu => ?_⟩
    rw [Addr.add_lit, blk_cell h]
    match i, hu with
    | 0, hu => simpa using hu
    | 1, hu => simpa using hu
    | 2, hu => simpa using hu
    | 3, hu => simpa using hu
    | k + 4, hu => simp at hu⟩⟩
theorem put47 {W : World} {S : Nat} {b0 b1 b2 b3 : Value} (h : W.heap[S]? = some (.cells #[b0, b1, b2, b3] 47 (0, 0))) (a0 a1 a2 a3 : Value) : ((((W.setCell ⟨S, 0, none⟩ a0).setCell ⟨S, 1, none⟩ a1).setCell ⟨S, 2, none⟩ a2).setCell ⟨S, 3, none⟩ a3).heap[S]? = some (.cells #[a0, a1, a2, a3] 47 (0, 0)) :=
  blk_put (blk_put (blk_put (blk_put h 0 a0 rfl) 1 a1 rfl) 2 a2 rfl) 3 a3 rfl
theorem DR.put47 {W : World} {T : Nat} {a : Value} {d : Dsk} {S : Nat} {b0 b1 b2 b3 : Value} (hd : DR W T a d) (h : W.heap[S]? = some (.cells #[b0, b1, b2, b3] 47 (0, 0))) (a0 a1 a2 a3 : Value) : DR ((((W.setCell ⟨S, 0, none⟩ a0).setCell ⟨S, 1, none⟩ a1).setCell ⟨S, 2, none⟩ a2).setCell ⟨S, 3, none⟩ a3) T a d :=
  DR.set47 (DR.set47 (DR.set47 (DR.set47 hd h 0 a0) (blk_put h 0 a0 rfl) 1 a1) (blk_put (blk_put h 0 a0 rfl) 1 a1 rfl) 2 a2) (blk_put (blk_put (blk_put h 0 a0 rfl) 1 a1 rfl) 2 a2 rfl) 3 a3
theorem below_put47 {w W : World} {T S : Nat} (hb : Below T w W) (hT : T ≤ S) (a0 a1 a2 a3 : Value) : Below T w ((((W.setCell ⟨S, 0, none⟩ a0).setCell ⟨S, 1, none⟩ a1).setCell ⟨S, 2, none⟩ a2).setCell ⟨S, 3, none⟩ a3) :=
  (((hb.setCell (p := ⟨S, 0, none⟩) hT a0).setCell (p := ⟨S, 1, none⟩) hT a1).setCell (p := ⟨S, 2, none⟩) hT a2).setCell (p := ⟨S, 3, none⟩) hT a3
theorem DR.zero (w : World) (T : Nat) : DR w T (.agg #[.slice none 0 0, .slice none 0 0, .slice none 0 0, .slice none 0 0]) ⟨[], [], [], []⟩ :=
  ⟨_, _, _, _, rfl, Kd.R_nil _ _ _ _ _, Kd.R_nil _ _ _ _ _, Kd.R_nil _ _ _ _ _, Kd.R_nil _ _ _ _ _⟩
end Go.Proofs.Ytnaddmkaakdhoaa.J
namespace Go.Proofs.Ytnaddmkaakdhoaa.Dk
open J
def E0 : Dsk := ⟨[], [], [], []⟩
def ent (d : Dsk) (s : ByteArray) : Nat := (d.dir.getD (pos d.dir s) z69).f1.toNat
def app (d : Dsk) (o : S49) : Dsk × Int :=
  if fieldsOK o = true then
    (if o.f0 = 6 then (settle d, 0)
     else if o.f0 = 2 ∨ o.f0 = 3 then
       (if has d.dir o.f1 = true then
         (if o.f0 = 3 then (⟨d.ino.set (ent d o.f1) ⟨(d.ino.getD (ent d o.f1) z67).f0, ((d.ino.getD (ent d o.f1) z67).f0.size : Nat)⟩, d.dir, d.dur, d.ops⟩, 0)
          else if 1048576 < (d.ino.getD (ent d o.f1) z67).f0.size + o.f3.size then (E0, 21)
          else (⟨d.ino.set (ent d o.f1) ⟨(d.ino.getD (ent d o.f1) z67).f0 ++ o.f3, (d.ino.getD (ent d o.f1) z67).f1⟩, d.dir, d.dur, d.ops⟩, 0))
        else (E0, 11))
     else if (chg d.dir o (d.ino.length : Nat)).2 = 0 then (⟨if o.f0 = 1 then d.ino ++ [z67] else d.ino, (chg d.dir o (d.ino.length : Nat)).1, d.dur, d.ops ++ [o]⟩, 0)
     else (E0, (chg d.dir o (d.ino.length : Nat)).2))
  else (E0, 1)
end Go.Proofs.Ytnaddmkaakdhoaa.Dk

end
section
namespace Go.Proofs.Ytnaddmkaakdhoaa.Dk
open J
theorem mem_put {l : List S69} {x y : S69} : y ∈ put l x ↔ y = x ∨ y ∈ l := by
  unfold put
  rw [List.mem_append, List.mem_cons]
  constructor
  · rintro (h | rfl | h)
    · exact .inr (List.mem_of_mem_take h)
    · exact .inl rfl
    · exact .inr (List.mem_of_mem_drop h)
  · rintro (rfl | h)
    · exact .inr (.inl rfl)
    · rw [← List.take_append_drop (pos l x.f0) l, List.mem_append] at h
      exact h.imp id .inr
theorem DirOK.mono {l : List S69} {n n' : Nat} (h : DirOK l n) (hn : n ≤ n') : DirOK l n' :=
  ⟨fun x hx => ⟨(h.1 x hx).1, (h.1 x hx).2.1, by have := (h.1 x hx).2.2; omega⟩, h.2⟩
theorem DirOK.inj {l : List S69} {n : Nat} (h : DirOK l n) {x y : S69} (hx : x ∈ l) (hy : y ∈ l) (e : x.f1 = y.f1) : x = y := by
  have hd := h.2.2
  unfold List.Nodup at hd
  rw [List.pairwise_map] at hd
  obtain ⟨i, hi, rfl⟩ := List.getElem_of_mem hx
  obtain ⟨j, hj, rfl⟩ := List.getElem_of_mem hy
  rcases Nat.lt_trichotomy i j with h | h | h
  · exact absurd e (List.pairwise_iff_getElem.1 hd i j hi hj h)
  · subst h; rfl
  · exact absurd e.symm (List.pairwise_iff_getElem.1 hd j i hj hi h)
theorem DirOK.put {l : List S69} {n : Nat} (h : DirOK l n) {x : S69} (hv : vname x.f0 = true) (h0 : 0 ≤ x.f1) (h1 : x.f1 < n) (hh : has l x.f0 = false) (hm : ∀ y ∈ l, y.f1 ≠ x.f1) : DirOK (put l x) n := by
  refine ⟨fun y hy => ?_, Srt.put h.2.1 hh, ?_⟩
  · rcases mem_put.1 hy with rfl | hy
    · exact ⟨hv, h0, h1⟩
    · exact h.1 y hy
  · unfold Dk.put
    have hp : (l.take (pos l x.f0) ++ x :: l.drop (pos l x.f0)).Perm (x :: l) := by
      have := List.perm_middle (a := x) (l₁ := l.take (pos l x.f0)) (l₂ := l.drop (pos l x.f0))
      rwa [List.take_append_drop] at this
    rw [(hp.map (·.f1)).nodup_iff, List.map_cons, List.nodup_cons]
    exact ⟨fun hc => by obtain ⟨y, hy, e⟩ := List.mem_map.1 hc; exact hm y hy e, h.2.2⟩
theorem DirOK.sub {l l' : List S69} {n : Nat} (h : DirOK l n) (hs : l'.Sublist l) : DirOK l' n :=
  ⟨fun x hx => h.1 x (hs.subset hx), List.Pairwise.sublist hs h.2.1, List.Pairwise.sublist (hs.map _) h.2.2⟩
theorem drop_sub (l : List S69) (s : ByteArray) : (Dk.drop l s).Sublist l := by
  unfold Dk.drop
  split
  · exact List.eraseIdx_sublist l _
  · exact List.Sublist.refl _
theorem DirOK.drop {l : List S69} {n : Nat} (h : DirOK l n) (s : ByteArray) : DirOK (Dk.drop l s) n := h.sub (drop_sub l s)
theorem pos_mem {l : List S69} (hs : Srt l) {s : ByteArray} (h : has l s = true) : ∃ x ∈ l, x.f0 = s ∧ l.getD (pos l s) z69 = x := by
  rw [has_pos hs] at h
  simp only [Bool.and_eq_true, decide_eq_true_eq] at h
  exact ⟨l.getD (pos l s) z69, by rw [getD_eq h.1]; exact List.getElem_mem h.1, nk_inj h.2, rfl⟩
theorem Srt.inj {l : List S69} (hs : Srt l) {x y : S69} (hx : x ∈ l) (hy : y ∈ l) (e : x.f0 = y.f0) : x = y := by
  obtain ⟨i, hi, rfl⟩ := List.getElem_of_mem hx
  obtain ⟨j, hj, rfl⟩ := List.getElem_of_mem hy
  rcases Nat.lt_trichotomy i j with h | h | h
  · have := List.pairwise_iff_getElem.1 hs i j hi hj h
    rw [e] at this
    exact absurd this (lt_irrefl _)
  · subst h; rfl
  · have := List.pairwise_iff_getElem.1 hs j i hj hi h
    rw [e] at this
    exact absurd this (lt_irrefl _)
theorem chg_ok {l : List S69} {o : S49} {n : Nat} (hl : DirOK l n) (h : (chg l o n).2 = 0) :
    DirOK (chg l o n).1 (if o.f0 = 1 then n + 1 else n) ∧ (∀ x ∈ (chg l o n).1, x.f1 = (n : Int) ∧ o.f0 = 1 ∨ ∃ y ∈ l, y.f1 = x.f1) := by
  unfold chg at h ⊢
  split
  · rename_i h1
    rw [if_pos h1] at h
    split at h
    · rename_i h2
      rw [if_pos h2]
      split at h
      · cases h
      · rename_i h3
        rw [if_neg h3]
        refine ⟨DirOK.put (hl.mono (Nat.le_succ n)) h2 (by simp) (by simp; omega) (by simpa using h3) (fun y hy => by have := (hl.1 y hy).2.2; simp; omega), fun x hx => ?_⟩
        rcases mem_put.1 hx with rfl | hx
        · exact .inl ⟨rfl, h1⟩
        · exact .inr ⟨x, hx, rfl⟩
    · cases h
  · rename_i h1
    rw [if_neg h1] at h
    split
    · rename_i h4
      rw [if_pos h4] at h
      split at h
      · rename_i h2
        rw [if_pos h2]
        split at h
        · rename_i h3
          rw [if_pos h3]
          split at h
          · cases h
          · rename_i h5
            rw [if_neg h5]
            obtain ⟨e, he, e1, e2⟩ := pos_mem hl.2.1 h2
            rw [e2]
            have hd : DirOK (Dk.drop (Dk.drop l o.f1) o.f2) n := (hl.drop _).drop _
            refine ⟨DirOK.put hd h3 (hl.1 e he).2.1 (hl.1 e he).2.2 (has_drop (hl.2.1.drop _) _) (fun y hy k => ?_), fun x hx => .inr ?_⟩
            · have hy1 := (mem_drop (hl.2.1.drop _)).1 hy
              have hy2 := (mem_drop hl.2.1).1 hy1.1
              have := hl.inj hy2.1 he k
              subst this
              exact hy2.2 e1
            · rcases mem_put.1 hx with rfl | hx
              · exact ⟨e, he, rfl⟩
              · exact ⟨x, (drop_sub _ _).subset ((drop_sub _ _).subset hx), rfl⟩
        · cases h
      · cases h
    · rename_i h4
      rw [if_neg h4] at h
      split at h
      · rename_i h2
        rw [if_pos h2]
        exact ⟨hl.drop _, fun x hx => .inr ⟨x, (drop_sub _ _).subset hx, rfl⟩⟩
      · cases h
theorem crt_cons (o : S49) (r : List S49) : crt (o :: r) = crt r + (if o.f0 = 1 then 1 else 0) := by
  unfold crt
  rw [List.countP_cons]
  by_cases h : o.f0 = 1 <;> simp [h]
theorem crt_append (a b : List S49) : crt (a ++ b) = crt a + crt b := by unfold crt; rw [List.countP_append]
theorem rep_cons (l : List S69) (n : Int) (o : S49) (r : List S49) : rep l n (o :: r) = if dirop o = true then (if (chg l o n).2 = 0 then rep (chg l o n).1 (if o.f0 = 1 then n + 1 else n) r else none) else none := rfl
theorem rep_append : ∀ (a b : List S49) (l : List S69) (m : Int), rep l m (a ++ b) = (rep l m a).bind (fun l' => rep l' (m + crt a) b)
  | [], b, l, m => by simp [rep, crt]
  | o :: a, b, l, m => by
    rw [List.cons_append, rep_cons, rep_cons]
    split
    · split
      · have e : (if o.f0 = 1 then m + 1 else m) + (crt a : Int) = m + ((crt (o :: a) : Nat) : Int) := by
          rw [crt_cons]
          by_cases h1 : o.f0 = 1
          · rw [if_pos h1, if_pos h1]; omega
          · rw [if_neg h1, if_neg h1]; omega
        rw [rep_append a b, e]
      · rfl
    · rfl
theorem rep_ok : ∀ (a : List S49) (l l' : List S69) (m : Nat), DirOK l m → rep l m a = some l' → DirOK l' (m + crt a) ∧ (∀ x ∈ l', (m : Int) ≤ x.f1 ∨ ∃ y ∈ l, y.f1 = x.f1)
  | [], l, l', m, hl, h => by
    obtain rfl : l = l' := by simpa [rep] using h
    exact ⟨by simpa [crt] using hl, fun x hx => .inr ⟨x, hx, rfl⟩⟩
  | o :: a, l, l', m, hl, h => by
    unfold rep at h
    split at h
    · split at h
      · rename_i h2
        obtain ⟨c1, c2⟩ := chg_ok hl h2
        have e : (if o.f0 = 1 then (m : Int) + 1 else m) = ((if o.f0 = 1 then m + 1 else m : Nat) : Int) := by split <;> rfl
        rw [e] at h
        obtain ⟨d1, d2⟩ := rep_ok a _ l' _ c1 h
        refine ⟨by rw [crt_cons]; refine d1.mono ?_; split <;> omega, fun x hx => ?_⟩
        rcases d2 x hx with h3 | ⟨y, hy, e3⟩
        · exact .inl (by split at h3 <;> omega)
        · rcases c2 y hy with ⟨e4, _⟩ | ⟨z, hz, e4⟩
          · exact .inl (by omega)
          · exact .inr ⟨z, hz, by omega⟩
      · cases h
    · cases h
theorem rep_take {l : List S69} {m : Int} {ops : List S49} {l' : List S69} (h : rep l m ops = some l') (k : Nat) : ∃ l2, rep l m (ops.take k) = some l2 := by
  rw [← List.take_append_drop k ops, rep_append] at h
  cases e : rep l m (ops.take k) with
  | none => rw [e] at h; cases h
  | some l2 => exact ⟨l2, rfl⟩
def inoOK (x : S67) : Prop := 0 ≤ x.f1 ∧ x.f1 ≤ x.f0.size ∧ x.f0.size ≤ 1048576
theorem inoBad_iff {d : Dsk} {i : Nat} {x : S67} : inoBad d i x = false ↔ (marked d.dir i = true ∨ marked d.dur i = true ∨ d.ino.length ≤ i + crt d.ops) ∧ inoOK x := by
  unfold inoBad inoOK
  cases h1 : marked d.dir i <;> cases h2 : marked d.dur i <;> simp <;> omega
structure Valid (d : Dsk) : Prop where
  dir : DirOK d.dir d.ino.length
  crt : crt d.ops ≤ d.ino.length
  dur : DirOK d.dur (d.ino.length - Dk.crt d.ops)
  old : ∀ i, i < d.ino.length - Dk.crt d.ops → marked d.dir i = true ∨ marked d.dur i = true
  ino : ∀ x ∈ d.ino, inoOK x
  rep : rep d.dur ((d.ino.length - Dk.crt d.ops : Nat) : Int) d.ops = some d.dir
theorem valid_of {d : Dsk} : valid d = true ↔ Valid d := by
  rw [valid_iff]
  constructor
  · rintro ⟨h1, h2, h3, h4, h5, h6⟩
    rw [List.any_eq_false] at h4
    refine ⟨h1, h3, ⟨fun x hx => ⟨(h2.1 x hx).1, (h2.1 x hx).2.1, ?_⟩, h2.2⟩, fun i hi => ?_, fun x hx => ?_, ?_⟩
    · have := h4 x hx
      simp only [decide_eq_true_eq] at this
      omega
    · rcases (inoBad_iff.1 (h5 i (by omega))).1 with h | h | h
      · exact .inl h
      · exact .inr h
      · omega
    · obtain ⟨i, hi, rfl⟩ := List.getElem_of_mem hx
      have := (inoBad_iff.1 (h5 i hi)).2
      rwa [getD67 hi] at this
    · rw [show ((d.ino.length - Dk.crt d.ops : Nat) : Int) = (d.ino.length : Int) - (Dk.crt d.ops : Nat) by omega]
      exact h6
  · intro h
    have h3 := h.crt
    refine ⟨h.dir, h.dur.mono (by omega), h3, ?_, fun i hi => inoBad_iff.2 ⟨?_, ?_⟩, ?_⟩
    · rw [List.any_eq_false]
      intro x hx
      have := (h.dur.1 x hx).2.2
      simp only [decide_eq_true_eq]
      omega
    · by_cases hi2 : i < d.ino.length - Dk.crt d.ops
      · exact (h.old i hi2).imp id .inl
      · exact .inr (.inr (by omega))
    · rw [getD67 hi]
      exact h.ino _ (List.getElem_mem hi)
    · rw [show (d.ino.length : Int) - (Dk.crt d.ops : Nat) = ((d.ino.length - Dk.crt d.ops : Nat) : Int) by omega]
      exact h.rep
theorem marked_iff {l : List S69} {i : Nat} : marked l i = true ↔ ∃ x ∈ l, x.f1 = (i : Int) := by
  unfold marked
  simp only [List.any_eq_true, decide_eq_true_eq]
theorem Valid.old' {d : Dsk} (h : Valid d) {i : Nat} (hi : i < d.ino.length - Dk.crt d.ops) : marked d.dur i = true := by
  rcases h.old i hi with h1 | h1
  · obtain ⟨x, hx, e⟩ := marked_iff.1 h1
    rcases (rep_ok d.ops d.dur d.dir _ h.dur h.rep).2 x hx with h2 | ⟨y, hy, e2⟩
    · omega
    · exact marked_iff.2 ⟨y, hy, by omega⟩
  · exact h1
theorem num_mono (l : List S69) {i j : Nat} (h : i ≤ j) : num l i ≤ num l j := by
  induction j with
  | zero => obtain rfl : i = 0 := by omega
            exact Nat.le_refl _
  | succ j ih =>
    rcases Nat.lt_or_ge j i with h2 | h2
    · rw [show i = j + 1 by omega]
      exact Nat.le_refl _
    · rw [num_succ]
      exact Nat.le_trans (ih h2) (Nat.le_add_right _ _)
theorem num_lt {l : List S69} {i j : Nat} (hm : marked l i = true) (h : i < j) : num l i < num l j := by
  have := num_mono l (show i + 1 ≤ j from h)
  rw [num_succ, if_pos hm] at this
  omega
theorem num_sur (l : List S69) : ∀ (n i : Nat), i < num l n → ∃ j, j < n ∧ marked l j = true ∧ num l j = i
  | 0, i, h => by simp [num] at h
  | n + 1, i, h => by
    rw [num_succ] at h
    by_cases hm : marked l n = true
    · rw [if_pos hm] at h
      rcases Nat.lt_or_ge i (num l n) with h2 | h2
      · obtain ⟨j, h3, h4⟩ := num_sur l n i h2
        exact ⟨j, by omega, h4⟩
      · exact ⟨n, by omega, hm, by omega⟩
    · rw [if_neg hm] at h
      obtain ⟨j, h3, h4⟩ := num_sur l n i (by omega)
      exact ⟨j, by omega, h4⟩
theorem keptTo_mem {l : List S69} {ino : List S67} {i : Nat} (hi : i ≤ ino.length) {x : S67} (h : x ∈ keptTo l ino i) : x ∈ ino := by
  unfold keptTo at h
  obtain ⟨k, hk, e⟩ := List.mem_filterMap.1 h
  split at e
  · have hk2 : k < ino.length := by have := List.mem_range.1 hk; omega
    rw [getD67 hk2] at e
    injection e with e
    exact e ▸ List.getElem_mem hk2
  · cases e
theorem DirOK_ren {l : List S69} {n : Nat} (h : DirOK l n) : DirOK (l.map (ren l)) (num l n) := by
  have hx : ∀ x ∈ l, ∃ j : Nat, x.f1 = (j : Int) ∧ j < n ∧ marked l j = true := fun x hx => by
    obtain ⟨_, h1, h2⟩ := h.1 x hx
    exact ⟨x.f1.toNat, (Int.toNat_of_nonneg h1).symm, by omega, marked_iff.2 ⟨x, hx, (Int.toNat_of_nonneg h1).symm⟩⟩
  refine ⟨fun y hy => ?_, ?_, ?_⟩
  · obtain ⟨x, hx1, rfl⟩ := List.mem_map.1 hy
    obtain ⟨j, e, hj, hm⟩ := hx x hx1
    refine ⟨(h.1 x hx1).1, by simp [ren], ?_⟩
    simp only [ren, e, Int.toNat_natCast]
    have := num_lt hm hj
    omega
  · unfold Srt
    rw [List.pairwise_map]
    exact h.2.1
  · rw [List.map_map]
    have h3 := h.2.2
    unfold List.Nodup at h3 ⊢
    rw [List.pairwise_map] at h3 ⊢
    refine List.Pairwise.imp_of_mem ?_ h3
    intro a b ha hb hne
    obtain ⟨i, e1, _, hm1⟩ := hx a ha
    obtain ⟨j, e2, _, hm2⟩ := hx b hb
    simp only [Function.comp, ren, e1, e2, Int.toNat_natCast]
    intro e
    rcases Nat.lt_trichotomy i j with h4 | h4 | h4
    · have := num_lt hm1 h4; omega
    · exact hne (by omega)
    · have := num_lt hm2 h4; omega
theorem valid_settle {d : Dsk} (h : DirOK d.dir d.ino.length) (hi : ∀ x ∈ d.ino, inoOK x) : Valid (settle d) := by
  have hl : (settle d).ino.length = num d.dir d.ino.length := keptTo_length _ _ _
  have hd := DirOK_ren h
  refine ⟨by rw [hl]; exact hd, Nat.zero_le _, by rw [hl]; exact hd, fun i h1 => .inl ?_, fun x hx => hi x (keptTo_mem (Nat.le_refl _) hx), rfl⟩
  rw [hl] at h1
  obtain ⟨j, h2, h3, h4⟩ := num_sur d.dir d.ino.length i (by have : Dk.crt (settle d).ops = 0 := rfl; omega)
  obtain ⟨x, hx, e⟩ := marked_iff.1 h3
  refine marked_iff.2 ⟨ren d.dir x, List.mem_map_of_mem hx, ?_⟩
  simp only [ren, e, Int.toNat_natCast, h4]
theorem inoOK_z : inoOK z67 := ⟨Int.le_refl _, Int.le_refl _, by decide⟩
theorem ent_lt {d : Dsk} (h : DirOK d.dir d.ino.length) {s : ByteArray} (hh : has d.dir s = true) : ent d s < d.ino.length := by
  obtain ⟨e, he, _, e2⟩ := pos_mem h.2.1 hh
  obtain ⟨_, h1, h2⟩ := h.1 e he
  unfold ent
  rw [e2]
  omega
theorem valid_app {d : Dsk} (h : Valid d) (o : S49) (h0 : (app d o).2 = 0) : Valid (app d o).1 := by
  unfold app at h0 ⊢
  split
  · rename_i hf
    rw [if_pos hf] at h0
    split
    · exact valid_settle h.dir h.ino
    · rename_i hk6
      rw [if_neg hk6] at h0
      split
      · rename_i hk23
        rw [if_pos hk23] at h0
        split
        · rename_i hh
          rw [if_pos hh] at h0
          have he := ent_lt h.dir hh
          have hx := h.ino _ (List.getElem_mem he)
          have key : ∀ x', inoOK x' → Valid ⟨d.ino.set (ent d o.f1) x', d.dir, d.dur, d.ops⟩ := fun x' hx' => by
            refine ⟨by rw [List.length_set]; exact h.dir, by rw [List.length_set]; exact h.crt, by rw [List.length_set]; exact h.dur, fun i hi => h.old i (by rwa [List.length_set] at hi), fun x hx => ?_, by rw [List.length_set]; exact h.rep⟩
            rcases List.mem_or_eq_of_mem_set hx with hx | rfl
            · exact h.ino x hx
            · exact hx'
          split
          · refine key _ ?_
            rw [getD67 he]
            exact ⟨Int.natCast_nonneg _, Int.le_refl _, hx.2.2⟩
          · split
            · rename_i hk3 hb
              rw [if_neg hk3, if_pos hb] at h0
              cases h0
            · rename_i hb
              refine key _ ?_
              rw [getD67 he] at hb ⊢
              have hx1 := hx.2.1
              refine ⟨hx.1, ?_, ?_⟩
              · show (d.ino[ent d o.f1]).f1 ≤ _
                rw [ByteArray.size_append]; omega
              · rw [ByteArray.size_append]; omega
        · rename_i hh
          rw [if_neg hh] at h0
          cases h0
      · rename_i hk23
        rw [if_neg hk23] at h0
        split
        · rename_i hc
          have hc' := chg_ok h.dir hc
          have hdir : dirop o = true := by
            unfold dirop
            rw [hf, Bool.and_true]
            unfold fieldsOK at hf
            by_cases h1 : o.f0 = 1
            · simp [h1]
            · by_cases h4 : o.f0 = 4
              · simp [h4]
              · by_cases h5 : o.f0 = 5
                · simp [h5]
                · exfalso
                  rw [if_neg (by omega), if_neg (by omega), if_neg h4, if_neg hk6] at hf
                  cases hf
          have hcr : Dk.crt (d.ops ++ [o]) = Dk.crt d.ops + (if o.f0 = 1 then 1 else 0) := by
            rw [crt_append]
            congr 1
            rw [crt_cons]
            simp [Dk.crt]
          have hlen : (if o.f0 = 1 then d.ino ++ [z67] else d.ino).length = d.ino.length + (if o.f0 = 1 then 1 else 0) := by split <;> simp
          have hcl := h.crt
          have hsub : (if o.f0 = 1 then d.ino ++ [z67] else d.ino).length - Dk.crt (d.ops ++ [o]) = d.ino.length - Dk.crt d.ops := by rw [hcr, hlen]; split <;> omega
          have hn : (if o.f0 = 1 then d.ino.length + 1 else d.ino.length) = (if o.f0 = 1 then d.ino ++ [z67] else d.ino).length := by rw [hlen]; split <;> rfl
          refine ⟨by rw [hn] at hc'; exact hc'.1, by show Dk.crt (d.ops ++ [o]) ≤ _; rw [hcr, hlen]; omega, ?_, fun i hi => .inr ?_, fun x hx => ?_, ?_⟩
          · show DirOK d.dur ((if o.f0 = 1 then d.ino ++ [z67] else d.ino).length - Dk.crt (d.ops ++ [o]))
            rw [hsub]; exact h.dur
          · have hi' : i < (if o.f0 = 1 then d.ino ++ [z67] else d.ino).length - Dk.crt (d.ops ++ [o]) := hi
            rw [hsub] at hi'
            exact h.old' hi'
          · have hx' : x ∈ (if o.f0 = 1 then d.ino ++ [z67] else d.ino) := hx
            split at hx'
            · rcases List.mem_append.1 hx' with hx' | hx'
              · exact h.ino x hx'
              · obtain rfl := List.mem_singleton.1 hx'
                exact inoOK_z
            · exact h.ino x hx'
          · show Dk.rep d.dur (((if o.f0 = 1 then d.ino ++ [z67] else d.ino).length - Dk.crt (d.ops ++ [o]) : Nat) : Int) (d.ops ++ [o]) = some (chg d.dir o (d.ino.length : Nat)).1
            rw [hsub, rep_append, h.rep]
            simp only [Option.bind_some]
            rw [show ((d.ino.length - Dk.crt d.ops : Nat) : Int) + (Dk.crt d.ops : Nat) = ((d.ino.length : Nat) : Int) by omega]
            unfold Dk.rep
            rw [if_pos hdir, if_pos hc]
            rfl
        · rename_i hc
          rw [if_neg hc] at h0
          exact absurd h0 hc
  · rename_i hf
    rw [if_neg hf] at h0
    cases h0
theorem Sml_app {d : Dsk} {k : Nat} (h : Sml k d) (o : S49) : Sml (k + 1) (app d o).1 := by
  obtain ⟨h0, h1, h2, h3⟩ := h
  have hz : Sml (k + 1) E0 := ⟨Nat.zero_le _, Nat.zero_le _, Nat.zero_le _, Nat.zero_le _⟩
  unfold app
  split
  · split
    · refine ⟨?_, ?_, ?_, Nat.zero_le _⟩
      · show (keptTo d.dir d.ino d.ino.length).length ≤ _
        rw [keptTo_length]
        have := num_le d.dir d.ino.length
        omega
      · show (d.dir.map (ren d.dir)).length ≤ _
        rw [List.length_map]; omega
      · show (d.dir.map (ren d.dir)).length ≤ _
        rw [List.length_map]; omega
    · split
      · split
        · split
          · exact ⟨by show (d.ino.set _ _).length ≤ _; rw [List.length_set]; omega, Nat.le_succ_of_le h1, Nat.le_succ_of_le h2, Nat.le_succ_of_le h3⟩
          · split
            · exact hz
            · exact ⟨by show (d.ino.set _ _).length ≤ _; rw [List.length_set]; omega, Nat.le_succ_of_le h1, Nat.le_succ_of_le h2, Nat.le_succ_of_le h3⟩
        · exact hz
      · split
        · refine ⟨?_, ?_, Nat.le_succ_of_le h2, ?_⟩
          · show (if o.f0 = 1 then d.ino ++ [z67] else d.ino).length ≤ _
            split
            · rw [List.length_append]; simp; omega
            · omega
          · have := chg_length d.dir o (d.ino.length : Nat)
            exact Nat.le_trans this (by omega)
          · show (d.ops ++ [o]).length ≤ _
            rw [List.length_append]; simp; omega
        · exact hz
  · exact hz
def appAll : Dsk → List S49 → Dsk × Int
  | d, [] => (d, 0)
  | d, o :: r => if (app d o).2 = 0 then appAll (app d o).1 r else (E0, (app d o).2)
def applyAll (d : Dsk) (l : List S49) : Dsk × Int := if valid d = true then appAll d l else (E0, 9)
end Go.Proofs.Ytnaddmkaakdhoaa.Dk

end
section
namespace Go.Proofs.Ytnaddmkaakdhoaa.Dk
open J
def fnd (l : List S69) (s : ByteArray) : Int := if has l s = true then (l.getD (pos l s) z69).f1 else -1
theorem has_false {l : List S69} {s : ByteArray} (h : ∀ x ∈ l, x.f0 ≠ s) : has l s = false := by
  rw [Bool.eq_false_iff]
  intro k
  obtain ⟨x, hx, e⟩ := has_iff.1 k
  exact h x hx e
theorem fnd_here {l : List S69} (hs : Srt l) {x : S69} (hx : x ∈ l) {s : ByteArray} (e : x.f0 = s) : fnd l s = x.f1 := by
  have hh : has l s = true := has_iff.2 ⟨x, hx, e⟩
  obtain ⟨y, hy, e1, e2⟩ := pos_mem hs hh
  unfold fnd
  rw [if_pos hh, e2, hs.inj hy hx (by rw [e1, e])]
theorem fnd_none {l : List S69} {s : ByteArray} (h : ∀ x ∈ l, x.f0 ≠ s) : fnd l s = -1 := by
  unfold fnd
  rw [has_false h]
  rfl
theorem drop_filter {l : List S69} (hs : Srt l) (s : ByteArray) : Dk.drop l s = l.filter (fun x => decide (x.f0 ≠ s)) := by
  induction l with
  | nil => rfl
  | cons y l ih =>
    have hs' : Srt l := (List.pairwise_cons.1 hs).2
    have hy := (List.pairwise_cons.1 hs).1
    by_cases k : y.f0 = s
    · have hp : pos (y :: l) s = 0 := pos_cons_ge hs (by rw [k]; exact lt_irrefl _)
      have hh : has (y :: l) s = true := has_iff.2 ⟨y, List.mem_cons_self, k⟩
      unfold Dk.drop
      rw [if_pos hh, hp, List.eraseIdx_cons_zero, List.filter_cons_of_neg (by simp [k])]
      refine (List.filter_eq_self.2 fun x hx => ?_).symm
      simp only [decide_eq_true_eq]
      intro e
      have := hy x hx
      rw [k, e] at this
      exact lt_irrefl _ this
    · rw [List.filter_cons_of_pos (by simpa using k), ← ih hs']
      by_cases h : nk y.f0 < nk s
      · have hh : has (y :: l) s = has l s := by simp [has, nk_iff, k]
        unfold Dk.drop
        rw [hh, pos_cons_lt h]
        split <;> rfl
      · have hl : ∀ z ∈ y :: l, z.f0 ≠ s := fun z hz e2 => by
          rcases List.mem_cons.1 hz with rfl | hz
          · exact k e2
          · exact h (by have := hy z hz; rwa [e2] at this)
        unfold Dk.drop
        rw [has_false hl, has_false (fun z hz => hl z (List.mem_cons_of_mem _ hz))]
        rfl
end Go.Proofs.Ytnaddmkaakdhoaa.Dk
namespace Go.Proofs.Ytnaddmkaakdhoaa.J
open Go.RowKit Go.Proofs.YtnaddmkaakdhoaaW.PrintWords Go.Proofs.YtnaddmkaakdhoaaW.PrintLast Go.Proofs.YtnaddmkaakdhoaaW.PrintMore
open Dk (Srt pos has fnd)
set_option linter.unusedVariables false
set_option linter.unusedSimpArgs false
set_option maxHeartbeats 8000000 in
set_option maxRecDepth 100000 in
theorem find57_calls (A : Option Addr) (c : Nat) (l : List S69) (s : ByteArray) (hs : Srt l) (w : World) (hr : Kd.C k69 w A l.length l) (hc : l.length ≤ c) :
    Calls Try.prog 57 #[.slice A l.length c, .string s] w fun e w' => e = .returned (.int .i64 (fnd l s)) ∧ Below w.heap.size w w' := by
  have HR := Aside0.mk hr
  have HS := Aside0.mk hs
  have hlen : l.length ≤ 9223372036854775807 := HR.out.2.1
  obtain ⟨r, hrr⟩ : ∃ r, r = fnd l s := ⟨_, rfl⟩
  rw [← hrr]
  have RR := Aside0.mk hrr
  obtain ⟨n, hn⟩ : ∃ n, n = l.length := ⟨_, rfl⟩
  have HN := Aside0.mk hn
  rw [← hn] at hlen hc ⊢
  have HB := Aside0.mk (Below.refl w.heap.size w)
  clear hr hn hs hrr
  go_enter Try.func57, Try.ntmps57
  go_wp2_with fail
  go_loopg [9] n (fun kx s9 wr => ∃ i : Nat, s9 = .int .i64 i ∧ i ≤ n ∧ n - i ≤ kx ∧ Aside0 (∀ x ∈ l.take i, x.f0 ≠ s) ∧ Aside0 (Below w.heap.size w wr))
  case atStart => exact ⟨0, rfl, Nat.zero_le _, by omega, ⟨fun x hx => by simp at hx⟩, HB⟩
  case round =>
    clear HB
    obtain ⟨i, rfl, hi, hk, hA, HB⟩ := hrel
    by_cases hlt : i < n
    · obtain ⟨ad, ea, hx0, hx1⟩ := at_T69 HR.out (i : Int) (by omega) (by have := HN.out; omega)
      cases ea
      obtain ⟨y, hy⟩ : ∃ y, y = rd_T69 l (i : Int) := ⟨_, rfl⟩
      rw [← hy] at hx0 hx1
      replace hx0 : wr.cell? (ad.add (i * 2)) = some (.string y.f0) := (HB.out.cell (World.block_lt_of_cell? w _ hx0)).trans hx0
      replace hx1 : wr.cell? ⟨(ad.add (i * 2)).block, (ad.add (i * 2)).off + 1, none⟩ = some (.int .i64 y.f1) := (HB.out.cell (World.block_lt_of_cell? w _ hx1)).trans hx1
      have hil : i < l.length := by have := HN.out; omega
      have hyi : l[i] = y := by
        rw [hy]
        show _ = l.getD i z69
        rw [Dk.getD_eq hil]
      have htk := Aside0.mk (show l.take (i + 1) = l.take i ++ [y] by rw [List.take_succ_eq_append_getElem hil, hyi])
      have hmem := Aside0.mk (show y ∈ l from hyi ▸ List.getElem_mem hil)
      have y0 := (blk_cell (blk_new wr (.cells #[.string y.f0, .int .i64 y.f1] 69)) 0).trans rfl
      have y1 := (blk_cell (blk_new wr (.cells #[.string y.f0, .int .i64 y.f1] 69)) 1).trans rfl
      have B2 := Aside0.mk (below_alloc HB.out (.cells #[.string y.f0, .int .i64 y.f1] 69))
      clear hy hyi HB
      by_cases he : y.f0.toList = s.toList
      · have e : r = y.f1 := by rw [RR.out, Dk.fnd_here HS.out hmem.out (tl_eq.1 he)]
        have E := Aside0.mk e
        have heb : (y.f0.toList == s.toList) = true := by simpa using he
        clear RR e
        go_wp2
        go_ret
        exact ⟨by rw [E.out]; rfl, B2.out⟩
      · have heb : (y.f0.toList == s.toList) = false := by simpa using he
        have hne := Aside0.mk (show y.f0 ≠ s from fun e => he (tl_eq.2 e))
        go_wp2
        go_roundg (n - i - 1)
        case measure => omega
        case rel => exact ⟨i + 1, by first | rfl | (simp; done), hlt, by omega, ⟨fun x hx => by
          rw [htk.out] at hx
          rcases List.mem_append.1 hx with hx | hx
          · exact hA.out x hx
          · rw [List.mem_singleton.1 hx]; exact hne.out⟩, B2⟩
    · have e : r = -1 := by
        have := hA.out
        rw [List.take_of_length_le (by have := HN.out; omega)] at this
        rw [RR.out, Dk.fnd_none this]
      have E := Aside0.mk e
      clear e
      go_wp2
      go_ret
      exact ⟨by rw [E.out]; rfl, HB.out⟩
set_option maxHeartbeats 8000000 in
set_option maxRecDepth 100000 in
theorem without84_calls (A : Option Addr) (c : Nat) (l : List S69) (s : ByteArray) (hs : Srt l) (w : World) (hr : Kd.C k69 w A l.length l) (hc : l.length ≤ c) (hl : l.length ≤ 1000000) :
    Calls Try.prog 84 #[.slice A l.length c, .string s] w fun e w' => ∃ v, e = .returned v ∧ Kd.R k69 69 w' w.heap.size (fun _ => True) v (Dk.drop l s) ∧ Below w.heap.size w w' := by
  have HR := Aside0.mk hr
  have HD := Aside0.mk (Dk.drop_filter hs s)
  obtain ⟨n, hn⟩ : ∃ n, n = l.length := ⟨_, rfl⟩
  have HN := Aside0.mk hn
  rw [← hn] at hl hc ⊢
  have HB := Aside0.mk (Below.refl w.heap.size w)
  clear hr hn hs
  go_enter Try.func84, Try.ntmps84
  go_wp2_with fail
  go_loopg [10, 5] n (fun kx s10 s5 wr => ∃ (i : Nat) (v : Value), s10 = .int .i64 i ∧ v = s5 ∧ i ≤ n ∧ n - i ≤ kx ∧ Aside0 (Below w.heap.size w wr) ∧ Aside0 (Kd.R k69 69 wr w.heap.size (fun _ => True) v ((l.take i).filter (fun x => decide (x.f0 ≠ s)))))
  case atStart => exact ⟨0, _, rfl, rfl, Nat.zero_le _, by omega, HB, ⟨Kd.R_nil _ _ _ _ _⟩⟩
  case round =>
    clear HB
    obtain ⟨i, vk, rfl, rfl, hi, hk, HB, HO⟩ := hrel
    by_cases hlt : i < n
    · obtain ⟨ad, ea, hx0, hx1⟩ := at_T69 HR.out (i : Int) (by omega) (by have := HN.out; omega)
      cases ea
      obtain ⟨y, hy⟩ : ∃ y, y = rd_T69 l (i : Int) := ⟨_, rfl⟩
      rw [← hy] at hx0 hx1
      replace hx0 : wr.cell? (ad.add (i * 2)) = some (.string y.f0) := (HB.out.cell (World.block_lt_of_cell? w _ hx0)).trans hx0
      replace hx1 : wr.cell? ⟨(ad.add (i * 2)).block, (ad.add (i * 2)).off + 1, none⟩ = some (.int .i64 y.f1) := (HB.out.cell (World.block_lt_of_cell? w _ hx1)).trans hx1
      have hil : i < l.length := by have := HN.out; omega
      have hyi : l[i] = y := by
        rw [hy]
        show _ = l.getD i z69
        rw [Dk.getD_eq hil]
      have htk := Aside0.mk (show (l.take (i + 1)).filter (fun x => decide (x.f0 ≠ s)) = (l.take i).filter (fun x => decide (x.f0 ≠ s)) ++ (if y.f0 = s then [] else [y]) by
        rw [List.take_succ_eq_append_getElem hil, hyi, List.filter_append]
        by_cases e : y.f0 = s <;> simp [e])
      have hlm : ((l.take i).filter (fun x => decide (x.f0 ≠ s))).length ≤ 1000000 := Nat.le_trans (List.length_filter_le _ _) (by rw [List.length_take]; omega)
      obtain ⟨Ak, ck, rfl⟩ := Kd.R_slice HO.out
      obtain ⟨L, hL⟩ : ∃ L, L = (l.take i).filter (fun x => decide (x.f0 ≠ s)) := ⟨_, rfl⟩
      rw [← hL] at HO htk hlm ⊢
      clear hy hyi hL
      have b1 := ((Below.refl wr.heap.size wr).alloc (Nat.le_refl _) (.cells #[.string y.f0, .int .i64 y.f1] 69))
      have y0 := (blk_cell (blk_new wr (.cells #[.string y.f0, .int .i64 y.f1] 69)) 0).trans rfl
      have y1 := (blk_cell (blk_new wr (.cells #[.string y.f0, .int .i64 y.f1] 69)) 1).trans rfl
      by_cases he : y.f0.toList = s.toList
      · have heb : (y.f0.toList == s.toList) = true := by simpa using he
        have hes : y.f0 = s := tl_eq.1 he
        rw [if_pos hes, List.append_nil] at htk
        have QB := Aside0.mk (below_step HB.out b1)
        have QO := Aside0.mk (Kd.R_below HO.out b1)
        clear hes b1
        go_wp2
        go_roundg (n - i - 1)
        case measure => omega
        case rel => exact ⟨i + 1, _, by first | rfl | (simp; done), rfl, hlt, by omega, QB, ⟨by rw [htk.out]; exact QO.out⟩⟩
      · have heb : (y.f0.toList == s.toList) = false := by simpa using he
        have hes : ¬ y.f0 = s := fun e => he (tl_eq.2 e)
        rw [if_neg hes] at htk
        have b2 := b1.alloc b1.size (.cells #[.string y.f0, .int .i64 y.f1] 69)
        have QX := Aside0.mk (C69_one (blk_new (wr.alloc (.cells #[.string y.f0, .int .i64 y.f1] 69)) (.cells #[.string y.f0, .int .i64 y.f1] 69)))
        rw [show (wr.alloc (.cells #[.string y.f0, .int .i64 y.f1] 69)).heap.size = wr.heap.size + 1 by simp] at QX
        have QB := Aside0.mk (below_step HB.out b2)
        have QO := Aside0.mk (Kd.R_below HO.out b2)
        have QS := Aside0.mk (Nat.le_trans HB.out.size b2.size)
        clear b1 b2 hes
        go_wp2_with (at_builtin; go_loud ((refine Kd.R_append_rows k69 (Rr := k69.K _) (w0 := w) w.heap.size rfl _ _ 44 69 (.agg #[.string ⟨#[]⟩, .int .i64 0]) 24 rfl Try.underlying44 info69 rfl (by decide) (by decide) (.slice Ak L.length ck) L [y] (some ⟨wr.heap.size + 1, 0, none⟩) 1 1 (fun _ => True) (fun _ => False) rfl rfl QO.out QX.out ?q2 ?q3 ?q4 QB.out QS.out ?q7 ?_); (case q2 => intro y cs h; obtain rfl := k69_open h; exact k69_mkM _ _ _ _); (case q3 => intro k h; exact h.elim); (case q4 => intro k hk; trivial); (case q7 => omega); intro v1 w1 h1 h2 h3 h4; have H1 := Aside0.mk h1; have H2 := Aside0.mk h2; clear h1 h2 h3 h4))
        go_roundg (n - i - 1)
        case measure => omega
        case rel => exact ⟨i + 1, v1, by first | rfl | (simp; done), rfl, hlt, by omega, H2, ⟨by rw [htk.out]; exact H1.out⟩⟩
    · have E2 := Aside0.mk (show Dk.drop l s = (l.take i).filter (fun x => decide (x.f0 ≠ s)) from by rw [HD.out, List.take_of_length_le (by have := HN.out; omega)])
      go_wp2
      go_ret
      rw [E2.out]
      exact ⟨_, rfl, HO.out, HB.out⟩
end Go.Proofs.Ytnaddmkaakdhoaa.J

end
section
namespace Go.Proofs.Ytnaddmkaakdhoaa.J
open Go.RowKit Go.Proofs.YtnaddmkaakdhoaaW.PrintWords Go.Proofs.YtnaddmkaakdhoaaW.PrintLast Go.Proofs.YtnaddmkaakdhoaaW.PrintMore
open Dk (Srt pos has nk)
set_option linter.unusedVariables false
set_option linter.unusedSimpArgs false
theorem C_head {α : Type} {k : Kd α} {w : World} {A : Option Addr} {n m : Nat} {l : List α} (h : k.C w A n l) (hm : m ≤ n) : k.C w A m (l.take m) := by
  obtain ⟨h1, h2, h3⟩ := h
  refine ⟨by rw [List.length_take]; omega, by omega, fun h0 => ?_⟩
  obtain ⟨ad, e, h4⟩ := h3 (by omega)
  refine ⟨ad, e, fun j p hj => h4 j p ?_⟩
  rw [List.getElem?_take] at hj
  split at hj
  · exact hj
  · cases hj
theorem C69_drop {w : World} {A : Option Addr} {n i c : Nat} {l : List S69} (h : Kd.C k69 w A n l) (hi : i ≤ n) (hc : n ≤ c) : Kd.C k69 w (if c = i then A else Option.map (fun x => x.add (i * 2)) A) (n - i) (l.drop i) := by
  obtain ⟨h1, h2, h3⟩ := h
  refine ⟨by rw [List.length_drop]; omega, by omega, fun h0 => ?_⟩
  obtain ⟨ad, e, h4⟩ := h3 (by omega)
  subst e
  refine ⟨ad.add (i * 2), by rw [if_neg (by omega)]; rfl, fun j p hj => ?_⟩
  rw [List.getElem?_drop] at hj
  obtain ⟨cs, h5, h6, h7⟩ := h4 (i + j) p hj
  refine ⟨cs, h5, h6, fun t u hu => ?_⟩
  have := h7 t u hu
  rw [← this]
  rw [Addr.add_add]
  congr 2
  show i * 2 + (j * 2 + t) = (i + j) * 2 + t
  omega
theorem R69_empty {T : Nat} {W : World} {N0 : Nat} (hN : T ≤ N0) (hh : W.heap[N0]? = some (.cells #[] 69 (0, 0))) : Kd.R k69 69 W T (fun _ => True) (.slice (some ⟨N0, 0, none⟩) 0 0) [] :=
  R69_of (n := 0) ⟨rfl, .inr ⟨N0, 0, #[], rfl, hN, hh, Nat.le_refl _, Nat.zero_le _, rfl, rfl⟩⟩ rfl (fun _ _ => trivial)
set_option maxHeartbeats 8000000 in
set_option maxRecDepth 100000 in
theorem with83_calls (A : Option Addr) (c : Nat) (l : List S69) (x : S69) (hs : Srt l) (w : World) (hr : Kd.C k69 w A l.length l) (hc : l.length ≤ c) (hl : l.length ≤ 1000000) :
    Calls Try.prog 83 #[.slice A l.length c, .agg #[.string x.f0, .int .i64 x.f1]] w fun e w' => ∃ v, e = .returned v ∧ Kd.R k69 69 w' w.heap.size (fun _ => True) v (Dk.put l x) ∧ Below w.heap.size w w' := by
  have HR := Aside0.mk hr
  have HS := Aside0.mk hs
  obtain ⟨n, hn⟩ : ∃ n, n = l.length := ⟨_, rfl⟩
  have HN := Aside0.mk hn
  rw [← hn] at hl hc ⊢
  have hb := (Below.refl w.heap.size w).alloc (Nat.le_refl _) (.cells #[.string x.f0, .int .i64 x.f1] 69)
  have hk := blk_new w (.cells #[.string x.f0, .int .i64 x.f1] 69)
  have hfo : Try.prog.follows Departure.mixedOrders = true := by kernel_rfl
  obtain ⟨P, hP⟩ : ∃ P, P = pos l x.f0 := ⟨_, rfl⟩
  have HP := Aside0.mk hP
  have EP := Aside0.mk (show Dk.put l x = l.take P ++ x :: l.drop P from by rw [hP]; rfl)
  clear hr hn hs hP
  go_enter Try.func83, Try.ntmps83
  go_wp2_with fail
  generalize w.alloc (.cells #[.string x.f0, .int .i64 x.f1] 69) = W0 at hb hk ⊢
  obtain ⟨X, hX⟩ : ∃ X, X = w.heap.size := ⟨_, rfl⟩
  rw [← hX] at hk ⊢
  have HB := Aside0.mk hb
  have HK := Aside0.mk hk
  clear hb hk hX
  go_loopg [5] n (fun kx s5 wr => ∃ i : Nat, s5 = .int .i64 i ∧ i ≤ n ∧ n - i ≤ kx ∧ Aside0 (∀ t, t < i → nk (l.getD t z69).f0 < nk x.f0) ∧ Aside0 (Below w.heap.size w wr) ∧ Aside0 (wr.heap[X]? = some (.cells #[.string x.f0, .int .i64 x.f1] 69 (0, 0))))
  case atStart => exact ⟨0, rfl, Nat.zero_le _, by omega, ⟨fun t ht => absurd ht (Nat.not_lt_zero _)⟩, HB, HK⟩
  case round =>
    clear HB HK
    obtain ⟨i, rfl, hi, hk, hA, HB, HK⟩ := hrel
    have z0 : wr.cell? ⟨X, 0, none⟩ = some (.string x.f0) := (blk_cell HK.out 0).trans rfl
    have z1 : wr.cell? ⟨X, 1, none⟩ = some (.int .i64 x.f1) := (blk_cell HK.out 1).trans rfl
    obtain ⟨b, hb⟩ : ∃ b : Bool, b = decide (i < n ∧ nk (l.getD i z69).f0 < nk x.f0) := ⟨_, rfl⟩
    have HBB := Aside0.mk hb
    clear hb
    go_upto_region 2 with fail
    go_cut [19] (fun c5 wx => c5 = .bool b ∧ ∃ nq, wx = wr.drewN nq)
    case first =>
      by_cases hlt : i < n
      · obtain ⟨ad, ea, hx0, hx1⟩ := at_T69 HR.out (i : Int) (by omega) (by have := HN.out; omega)
        cases ea
        obtain ⟨y, hy⟩ : ∃ y, y = rd_T69 l (i : Int) := ⟨_, rfl⟩
        rw [← hy] at hx0
        replace hx0 : wr.cell? (ad.add (i * 2)) = some (.string y.f0) := (HB.out.cell (World.block_lt_of_cell? w _ hx0)).trans hx0
        have Y := Aside0.mk (show l.getD i z69 = y from by rw [hy]; rfl)
        have hi0 : (0 : Int) ≤ (i : Int) := by omega
        have hi1 : (i : Int) < (n : Int) := by omega
        have hd : decide ((i : Int) < (n : Int)) = true := decide_eq_true hi1
        clear hy hx1
        by_cases hn1 : nk y.f0 < nk x.f0
        · have hbl : Op.bytesLess y.f0.toList x.f0.toList = true := by rw [bl_eq]; exact decide_eq_true hn1
          go_big_quiet_o (fail)
          go_wp2
          go_meet
          exact ⟨congrArg Value.bool (HBB.out.trans (decide_eq_true ⟨hlt, by rw [Y.out]; exact hn1⟩)).symm, _, rfl⟩
        · have hbl : Op.bytesLess y.f0.toList x.f0.toList = false := by rw [bl_eq]; exact decide_eq_false hn1
          go_big_quiet_o (fail)
          go_wp2
          go_meet
          exact ⟨congrArg Value.bool (HBB.out.trans (decide_eq_false (fun h => hn1 (by have := h.2; rwa [Y.out] at this)))).symm, _, rfl⟩
      · have hd : decide ((i : Int) < (n : Int)) = false := decide_eq_false (by omega)
        go_big_quiet_o (fail)
        go_wp2
        go_meet
        exact ⟨congrArg Value.bool (HBB.out.trans (decide_eq_false (fun h => hlt h.1))).symm, _, rfl⟩
    case rest =>
      obtain ⟨rfl, nq, rfl⟩ := hcut
      have B2 := Aside0.mk (pw_below_drewN HB.out nq)
      have K2 := Aside0.mk (blk_drewN HK.out nq)
      clear HB HK z0 z1
      cases b with
      | true =>
        have h := of_decide_eq_true HBB.out.symm
        have hlt := h.1
        have A2 := Aside0.mk (show ∀ t, t < i + 1 → nk (l.getD t z69).f0 < nk x.f0 from fun t ht => by
          rcases Nat.lt_or_ge t i with h1 | h1
          · exact hA.out t h1
          · rw [show t = i by omega]; exact h.2)
        clear h
        go_wp2
        go_roundg (n - i - 1)
        case measure => omega
        case rel => exact ⟨i + 1, by first | rfl | (simp; done), hlt, by omega, A2, B2, K2⟩
      | false =>
        have h := of_decide_eq_false HBB.out.symm
        have hPi : P = i := by
          rw [HP.out]
          refine Dk.pos_of l x.f0 i (by have := HN.out; omega) hA.out (fun t h1 h2 h3 => ?_)
          rcases Nat.lt_or_ge i n with h4 | h4
          · have h5 : nk (l.getD i z69).f0 < nk x.f0 := by
              rcases Nat.lt_or_ge i t with h6 | h6
              · exact Dk.lt_trans (HS.out.lt h6 h2) h3
              · rw [show i = t by omega]; exact h3
            exact h ⟨h4, h5⟩
          · have := HN.out; omega
        have EI := Aside0.mk (show Dk.put l x = l.take i ++ x :: l.drop i from by rw [EP.out, hPi])
        clear h hPi
        generalize wr.drewN nq = W2 at B2 K2 ⊢
        go_upto_region 4 with fail
        have z0 : W2.cell? ⟨X, 0, none⟩ = some (.string x.f0) := (blk_cell K2.out 0).trans rfl
        have z1 : W2.cell? ⟨X, 1, none⟩ = some (.int .i64 x.f1) := (blk_cell K2.out 1).trans rfl
        have hi0 : (0 : Int) ≤ (i : Int) := by omega
        have hin : (i : Int) ≤ (n : Int) := by omega
        have hic : (i : Int) ≤ (c : Int) := by omega
        have hnc : (n : Int) ≤ (c : Int) := by omega
        have BW := Aside0.mk (Below.refl W2.heap.size W2)
        have hNw : w.heap.size ≤ W2.heap.size := B2.out.size
        -- the worlds ahead of the first append
        have ba := ((Below.refl W2.heap.size W2).alloc (Nat.le_refl _) (.cells #[] 69)).drew
        have bx := ((Below.refl W2.heap.size W2).alloc (Nat.le_refl _) (.cells #[.string x.f0, .int .i64 x.f1] 69)).drew
        have AA := Aside0.mk (show Below W2.heap.size W2 (W2.alloc (.cells #[] 69)).drew from ba)
        have AB := Aside0.mk (show Below W2.heap.size W2 ((W2.alloc (.cells #[] 69)).alloc (.cells #[.string x.f0, .int .i64 x.f1] 69)).drew from ((((Below.refl W2.heap.size W2).alloc (Nat.le_refl _) (.cells #[] 69))).alloc (by simp) (.cells #[.string x.f0, .int .i64 x.f1] 69)).drew)
        have AC := Aside0.mk (show Below W2.heap.size W2 ((W2.alloc (.cells #[.string x.f0, .int .i64 x.f1] 69)).alloc (.cells #[] 69)).drew from ((((Below.refl W2.heap.size W2).alloc (Nat.le_refl _) (.cells #[.string x.f0, .int .i64 x.f1] 69))).alloc (by simp) (.cells #[] 69)).drew)
        have EA := Aside0.mk (show Kd.R k69 69 (W2.alloc (.cells #[] 69)).drew W2.heap.size (fun _ => True) (.slice (some ⟨W2.heap.size, 0, none⟩) 0 0) [] from R69_empty (Nat.le_refl _) (blk_drew (blk_new W2 _)))
        have EB := Aside0.mk (show Kd.R k69 69 ((W2.alloc (.cells #[] 69)).alloc (.cells #[.string x.f0, .int .i64 x.f1] 69)).drew W2.heap.size (fun _ => True) (.slice (some ⟨W2.heap.size, 0, none⟩) 0 0) [] from R69_empty (Nat.le_refl _) (blk_drew (blk_alloc (blk_new W2 _) _)))
        have EC := Aside0.mk (show Kd.R k69 69 ((W2.alloc (.cells #[.string x.f0, .int .i64 x.f1] 69)).alloc (.cells #[] 69)).drew W2.heap.size (fun _ => True) (.slice (some ⟨W2.heap.size + 1, 0, none⟩) 0 0) [] from R69_empty (Nat.le_succ _) (by have := blk_drew (blk_new (W2.alloc (.cells #[.string x.f0, .int .i64 x.f1] 69)) (.cells #[] 69)); simpa using this))
        have XB := Aside0.mk (show ((W2.alloc (.cells #[] 69)).alloc (.cells #[.string x.f0, .int .i64 x.f1] 69)).drew.heap[W2.heap.size + 1]? = some (.cells #[.string x.f0, .int .i64 x.f1] 69 (0, 0)) from (by have := blk_drew (blk_new (W2.alloc (.cells #[] 69)) (.cells #[.string x.f0, .int .i64 x.f1] 69)); simpa using this))
        have XC := Aside0.mk (show ((W2.alloc (.cells #[.string x.f0, .int .i64 x.f1] 69)).alloc (.cells #[] 69)).drew.heap[W2.heap.size]? = some (.cells #[.string x.f0, .int .i64 x.f1] 69 (0, 0)) from blk_drew (blk_alloc (blk_new W2 _) _))
        have RT := Aside0.mk (fun W (hb : Below W2.heap.size W2 W) => C_head (m := i) (Kd.C_below HR.out (below_step B2.out hb)) (by have := HN.out; omega))
        have RD := Aside0.mk (fun W (hb : Below W2.heap.size W2 W) => C69_drop (i := i) (c := c) (Kd.C_below HR.out (below_step B2.out hb)) (by have := HN.out; omega) (by have := HN.out; omega))
        rw [← HN.out] at RD
        have lt_ : (l.take i).length = i := by rw [List.length_take]; have := HN.out; omega
        have LT := Aside0.mk lt_
        clear ba bx lt_
        go_region_held3 (fun w' => w'.cell? ⟨X, 0, none⟩ = some (.string x.f0) ∧ w'.cell? ⟨X, 1, none⟩ = some (.int .i64 x.f1)) (first | (go_keep; done) | exact ⟨(blk_cell (blk_below K2.out BW.out) 0).trans rfl, (blk_cell (blk_below K2.out BW.out) 1).trans rfl⟩)
          (first
            | (refine Kd.R_append_rows_step k69 (Rr := k69.K _) (w0 := W2) W2.heap.size (by rfl) (.tmp 22) (.tmp 25) 44 69 (.agg #[.string ⟨#[]⟩, .int .i64 0]) 24 rfl Try.underlying44 info69 rfl (by decide) (by decide) (.slice (some ⟨W2.heap.size, 0, none⟩) 0 0) [] (l.take i) A i c (fun _ => True) (fun _ => False) rfl rfl EA.out (RT.out _ AA.out) (by intro y cs h; obtain rfl := k69_open h; exact k69_mkM _ _ _ _) (fun k h => h.elim) (fun k hk => trivial) AA.out (AA.out).size (by have := LT.out; simp only [List.length_nil, List.length_append, List.length_cons] at *; omega) ?_; intro v5 w5 h1 h2 h3 h4; rw [List.nil_append] at h1; obtain ⟨A5, c5, hv⟩ := Kd.R_slice h1; rw [LT.out] at hv; subst hv; have H5 := Aside0.mk h1; clear BW; have BW := Aside0.mk h2;  clear h1 h2 h3 h4)
            | (refine Kd.R_append_rows_step k69 (Rr := k69.K _) (w0 := W2) W2.heap.size (by rfl) (.tmp 22) (.tmp 25) 44 69 (.agg #[.string ⟨#[]⟩, .int .i64 0]) 24 rfl Try.underlying44 info69 rfl (by decide) (by decide) (.slice (some ⟨W2.heap.size, 0, none⟩) 0 0) [] (l.take i) A i c (fun _ => True) (fun _ => False) rfl rfl EB.out (RT.out _ AB.out) (by intro y cs h; obtain rfl := k69_open h; exact k69_mkM _ _ _ _) (fun k h => h.elim) (fun k hk => trivial) AB.out (AB.out).size (by have := LT.out; simp only [List.length_nil, List.length_append, List.length_cons] at *; omega) ?_; intro v5 w5 h1 h2 h3 h4; rw [List.nil_append] at h1; obtain ⟨A5, c5, hv⟩ := Kd.R_slice h1; rw [LT.out] at hv; subst hv; have H5 := Aside0.mk h1; clear BW; have BW := Aside0.mk h2; have XY := Aside0.mk (blk_grown XB.out h3 (by intro e; have e2 : W2.heap.size + 1 = W2.heap.size := Option.some.inj e; omega)); clear h1 h2 h3 h4)
            | (refine Kd.R_append_rows_step k69 (Rr := k69.K _) (w0 := W2) W2.heap.size (by rfl) (.tmp 22) (.tmp 25) 44 69 (.agg #[.string ⟨#[]⟩, .int .i64 0]) 24 rfl Try.underlying44 info69 rfl (by decide) (by decide) (.slice (some ⟨W2.heap.size + 1, 0, none⟩) 0 0) [] (l.take i) A i c (fun _ => True) (fun _ => False) rfl rfl EC.out (RT.out _ AC.out) (by intro y cs h; obtain rfl := k69_open h; exact k69_mkM _ _ _ _) (fun k h => h.elim) (fun k hk => trivial) AC.out (AC.out).size (by have := LT.out; simp only [List.length_nil, List.length_append, List.length_cons] at *; omega) ?_; intro v5 w5 h1 h2 h3 h4; rw [List.nil_append] at h1; obtain ⟨A5, c5, hv⟩ := Kd.R_slice h1; rw [LT.out] at hv; subst hv; have H5 := Aside0.mk h1; clear BW; have BW := Aside0.mk h2; have XY := Aside0.mk (blk_grown XC.out h3 (by intro e; have e2 : W2.heap.size = W2.heap.size + 1 := Option.some.inj e; omega)); clear h1 h2 h3 h4)
            | (refine Kd.R_append_rows_step k69 (Rr := k69.K _) (w0 := W2) W2.heap.size (by rfl) (.tmp 26) (.tmp 28) 44 69 (.agg #[.string ⟨#[]⟩, .int .i64 0]) 24 rfl Try.underlying44 info69 rfl (by decide) (by decide) (.slice A5 i c5) (l.take i) [x] (some ⟨w5.heap.size, 0, none⟩) 1 1 (fun _ => True) (fun _ => False) rfl rfl (Kd.R_below H5.out ((Below.refl w5.heap.size w5).alloc (Nat.le_refl _) (.cells #[.string x.f0, .int .i64 x.f1] 69))) (C69_one (blk_new w5 (.cells #[.string x.f0, .int .i64 x.f1] 69))) (by intro y cs h; obtain rfl := k69_open h; exact k69_mkM _ _ _ _) (fun k h => h.elim) (fun k hk => trivial) (below_step BW.out ((Below.refl w5.heap.size w5).alloc (Nat.le_refl _) (.cells #[.string x.f0, .int .i64 x.f1] 69))) ((below_step BW.out ((Below.refl w5.heap.size w5).alloc (Nat.le_refl _) (.cells #[.string x.f0, .int .i64 x.f1] 69)))).size (by have := LT.out; simp only [List.length_nil, List.length_append, List.length_cons] at *; omega) ?_; intro v7 w7 h1 h2 h3 h4; obtain ⟨A7, c7, hv⟩ := Kd.R_slice h1; rw [List.length_append, LT.out] at hv; have hv2 : v7 = .slice A7 (i + 1) c7 := hv; clear hv; subst hv2; have H7 := Aside0.mk h1; clear BW; have BW := Aside0.mk h2; clear h1 h2 h3 h4)
            | (refine Kd.R_append_rows_step k69 (Rr := k69.K _) (w0 := W2) W2.heap.size (by rfl) (.tmp 26) (.tmp 28) 44 69 (.agg #[.string ⟨#[]⟩, .int .i64 0]) 24 rfl Try.underlying44 info69 rfl (by decide) (by decide) (.slice A5 i c5) (l.take i) [x] (some ⟨W2.heap.size + 1, 0, none⟩) 1 1 (fun _ => True) (fun _ => False) rfl rfl H5.out (C69_one XY.out) (by intro y cs h; obtain rfl := k69_open h; exact k69_mkM _ _ _ _) (fun k h => h.elim) (fun k hk => trivial) BW.out (BW.out).size (by have := LT.out; simp only [List.length_nil, List.length_append, List.length_cons] at *; omega) ?_; intro v7 w7 h1 h2 h3 h4; obtain ⟨A7, c7, hv⟩ := Kd.R_slice h1; rw [List.length_append, LT.out] at hv; have hv2 : v7 = .slice A7 (i + 1) c7 := hv; clear hv; subst hv2; have H7 := Aside0.mk h1; clear BW; have BW := Aside0.mk h2; clear h1 h2 h3 h4)
            | (refine Kd.R_append_rows_step k69 (Rr := k69.K _) (w0 := W2) W2.heap.size (by rfl) (.tmp 26) (.tmp 28) 44 69 (.agg #[.string ⟨#[]⟩, .int .i64 0]) 24 rfl Try.underlying44 info69 rfl (by decide) (by decide) (.slice A5 i c5) (l.take i) [x] (some ⟨W2.heap.size, 0, none⟩) 1 1 (fun _ => True) (fun _ => False) rfl rfl H5.out (C69_one XY.out) (by intro y cs h; obtain rfl := k69_open h; exact k69_mkM _ _ _ _) (fun k h => h.elim) (fun k hk => trivial) BW.out (BW.out).size (by have := LT.out; simp only [List.length_nil, List.length_append, List.length_cons] at *; omega) ?_; intro v7 w7 h1 h2 h3 h4; obtain ⟨A7, c7, hv⟩ := Kd.R_slice h1; rw [List.length_append, LT.out] at hv; have hv2 : v7 = .slice A7 (i + 1) c7 := hv; clear hv; subst hv2; have H7 := Aside0.mk h1; clear BW; have BW := Aside0.mk h2; clear h1 h2 h3 h4)
            | (refine Kd.R_append_rows_step k69 (Rr := k69.K _) (w0 := W2) W2.heap.size (by rfl) (.tmp 29) (.tmp 32) 44 69 (.agg #[.string ⟨#[]⟩, .int .i64 0]) 24 rfl Try.underlying44 info69 rfl (by decide) (by decide) (.slice A7 (i + 1) c7) (l.take i ++ [x]) (l.drop i) (if c = i then A else Option.map (fun x => x.add (i * 2)) A) (n - i) (c - i) (fun _ => True) (fun _ => False) rfl rfl H7.out (RD.out _ BW.out) (by intro y cs h; obtain rfl := k69_open h; exact k69_mkM _ _ _ _) (fun k h => h.elim) (fun k hk => trivial) BW.out (BW.out).size (by have := LT.out; simp only [List.length_nil, List.length_append, List.length_cons] at *; omega) ?_; intro v11 w11 h1 h2 h3 h4; have H11 := Aside0.mk h1; clear BW; have BW := Aside0.mk h2; clear h1 h2 h3 h4))
        all_goals go_wp2
        all_goals
          go_ret
          refine ⟨_, rfl, ?_, below_step B2.out BW.out⟩
          rw [EI.out, show l.take i ++ x :: l.drop i = l.take i ++ [x] ++ l.drop i by simp]
          exact Kd.R_lower H11.out hNw
end Go.Proofs.Ytnaddmkaakdhoaa.J

end
section
namespace Go.Proofs.Ytnaddmkaakdhoaa.Dk
open J
def stp (l : List S69) (o : S49) (ino : Int) : List S69 × Int := if dirop o = true then chg l o ino else ([], 1)
end Go.Proofs.Ytnaddmkaakdhoaa.Dk
namespace Go.Proofs.Ytnaddmkaakdhoaa.J
open Go.RowKit Go.Proofs.YtnaddmkaakdhoaaW.PrintWords Go.Proofs.YtnaddmkaakdhoaaW.PrintLast Go.Proofs.YtnaddmkaakdhoaaW.PrintMore
open Dk (Srt pos has fnd stp vname)
set_option linter.unusedVariables false
set_option linter.unusedSimpArgs false
set_option maxHeartbeats 8000000 in
set_option maxRecDepth 100000 in
theorem step59_calls (A : Option Addr) (c : Nat) (l : List S69) (o : S49) (ino : Int) (w : World) (hs : Srt l) (hin : ∀ x ∈ l, 0 ≤ x.f1) (hr : Kd.C k69 w A l.length l) (hc : l.length ≤ c) (hl : l.length ≤ 100000) :
    Calls Try.prog 59 #[.slice A l.length c, .agg #[.int .i64 o.f0, .string o.f1, .string o.f2, .string o.f3], .int .i64 ino] w fun e w' => ∃ v, e = .returned (.tuple #[v, .int .i64 (stp l o ino).2]) ∧ Kd.R k69 69 w' w.heap.size (fun _ => True) v (stp l o ino).1 ∧ Below w.heap.size w w' := by
  have HR := Aside0.mk hr
  have HS := Aside0.mk hs
  obtain ⟨k, nm, tt, dat⟩ := o
  simp only
  obtain ⟨res, hres⟩ : ∃ res, res = stp l ⟨k, nm, tt, dat⟩ ino := ⟨_, rfl⟩
  rw [← hres]
  have RES := Aside0.mk hres
  obtain ⟨f, hf⟩ : ∃ f, f = fnd l nm := ⟨_, rfl⟩
  have FC := Aside0.mk (fun w' hC => find57_calls A c l nm hs w' hC hc)
  rw [← hf] at FC
  have HFE := Aside0.mk hf
  obtain ⟨bh, hbh⟩ : ∃ bh, bh = has l nm := ⟨_, rfl⟩
  have BH := Aside0.mk hbh
  have HF := Aside0.mk (show bh = true → 0 ≤ f from fun h => by
    obtain ⟨x, hx, _, e2⟩ := Dk.pos_mem hs (s := nm) (by rw [← hbh, h])
    rw [hf, Dk.fnd, ← hbh, h, if_pos rfl, e2]
    exact hin x hx)
  have HF2 := Aside0.mk (show bh = false → f = -1 from fun h => by
    rw [hf, Dk.fnd, ← hbh, h]
    rfl)
  clear hr hs hres hf hbh hin
  go_enter Try.func59, Try.ntmps59
  go_wp2_with fail
  have hb0 := (Below.refl w.heap.size w).alloc (Nat.le_refl _) (.cells #[.int .i64 k, .string nm, .string tt, .string dat] 49)
  have hk0 := blk_new w (.cells #[.int .i64 k, .string nm, .string tt, .string dat] 49)
  generalize w.alloc (.cells #[.int .i64 k, .string nm, .string tt, .string dat] 49) = W0 at hb0 hk0 ⊢
  obtain ⟨O, hO⟩ : ∃ O, O = w.heap.size := ⟨_, rfl⟩
  rw [← hO] at hk0 ⊢
  refine (FC.out W0 (Kd.C_below HR.out hb0)).mono ?_
  rintro e w1 ⟨rfl, hb1⟩
  have HB1 := Aside0.mk (below_step hb0 hb1)
  have HK1 := Aside0.mk (blk_below hk0 hb1)
  clear hb0 hk0 hb1 hO FC
  have o0 := (blk_cell HK1.out 0).trans rfl
  have o1 := (blk_cell HK1.out 1).trans rfl
  have o2 := (blk_cell HK1.out 2).trans rfl
  have o3 := (blk_cell HK1.out 3).trans rfl
  by_cases hk1 : k = 1
  · subst hk1
    obtain ⟨b2, hb2⟩ : ∃ b, tt.toList.isEmpty = b := ⟨_, rfl⟩
    obtain ⟨b3, hb3⟩ : ∃ b, dat.toList.isEmpty = b := ⟨_, rfl⟩
    cases b2 with
    | false =>
      have E := Aside0.mk (show res = ([], 1) from by rw [RES.out]; simp [Dk.stp, Dk.dirop, Dk.fieldsOK, Dk.em, Dk.chg, ← BH.out, hb2, hb3])
      go_wp2
      go_ret2
      rw [E.out]
      exact ⟨_, rfl, Kd.R_nil _ _ _ _ _, HB1.out⟩
    | true =>
      cases b3 with
      | false =>
        have E := Aside0.mk (show res = ([], 1) from by rw [RES.out]; simp [Dk.stp, Dk.dirop, Dk.fieldsOK, Dk.em, Dk.chg, ← BH.out, hb2, hb3])
        go_wp2
        go_ret2
        rw [E.out]
        exact ⟨_, rfl, Kd.R_nil _ _ _ _ _, HB1.out⟩
      | true =>
        obtain ⟨q, hq⟩ : ∃ q, q = vname nm := ⟨_, rfl⟩
        have VC := Aside0.mk (fun w' => vname82_calls nm w')
        rw [← hq] at VC
        have HQ := Aside0.mk hq
        clear hq
        go_wp2_with fail
        refine (VC.out _).mono ?_
        rintro e w2 ⟨rfl, hb2⟩
        have HB2 := Aside0.mk (below_step HB1.out hb2)
        have HK2 := Aside0.mk (blk_below HK1.out hb2)
        clear hb2 o0 o1 o2 o3
        have o0 := (blk_cell HK2.out 0).trans rfl
        have o1 := (blk_cell HK2.out 1).trans rfl
        have o2 := (blk_cell HK2.out 2).trans rfl
        have o3 := (blk_cell HK2.out 3).trans rfl
        cases q with
        | false =>
          have E := Aside0.mk (show res = ([], 4) from by rw [RES.out]; simp [Dk.stp, Dk.dirop, Dk.fieldsOK, Dk.em, Dk.chg, ← BH.out, hb2, hb3, ← HQ.out])
          go_wp2
          go_ret2
          rw [E.out]
          exact ⟨_, rfl, Kd.R_nil _ _ _ _ _, HB2.out⟩
        | true =>
          cases bh with
          | true =>
            have hf1 : ¬ (f = -1) := by have := HF.out rfl; omega
            have E := Aside0.mk (show res = ([], 5) from by rw [RES.out]; simp [Dk.stp, Dk.dirop, Dk.fieldsOK, Dk.em, Dk.chg, ← BH.out, hb2, hb3, ← HQ.out])
            go_wp2
            go_ret2
            rw [E.out]
            exact ⟨_, rfl, Kd.R_nil _ _ _ _ _, HB2.out⟩
          | false =>
            have hf1 : f = -1 := HF2.out rfl
            subst hf1
            have E := Aside0.mk (show res = (Dk.put l ⟨nm, ino⟩, 0) from by rw [RES.out]; simp [Dk.stp, Dk.dirop, Dk.fieldsOK, Dk.em, Dk.chg, ← BH.out, hb2, hb3, ← HQ.out])
            go_wp2_with fail
            refine (with83_calls A c l ⟨nm, ino⟩ HS.out w2 (Kd.C_below HR.out HB2.out) hc (by omega)).mono ?_
            rintro e w9 ⟨v, rfl, h1, h2⟩
            have H1 := Aside0.mk (Kd.R_lower h1 HB2.out.size)
            have HB9 := Aside0.mk (below_step HB2.out h2)
            clear h1 h2 o0 o1 o2 o3
            go_wp2
            go_ret2
            rw [E.out]
            exact ⟨_, rfl, H1.out, HB9.out⟩
  · by_cases hk4 : k = 4
    · subst hk4
      obtain ⟨b2, hb2⟩ : ∃ b, tt.toList.isEmpty = b := ⟨_, rfl⟩
      obtain ⟨b3, hb3⟩ : ∃ b, dat.toList.isEmpty = b := ⟨_, rfl⟩
      cases b3 with
      | false =>
        have E := Aside0.mk (show res = ([], 1) from by rw [RES.out]; simp [Dk.stp, Dk.dirop, Dk.fieldsOK, Dk.em, Dk.chg, ← BH.out, hb2, hb3])
        go_wp2
        go_ret2
        rw [E.out]
        exact ⟨_, rfl, Kd.R_nil _ _ _ _ _, HB1.out⟩
      | true =>
        cases bh with
        | false =>
          have hf1 : f = -1 := HF2.out rfl
          subst hf1
          have E := Aside0.mk (show res = ([], 11) from by rw [RES.out]; simp [Dk.stp, Dk.dirop, Dk.fieldsOK, Dk.em, Dk.chg, ← BH.out, hb2, hb3])
          go_wp2
          go_ret2
          rw [E.out]
          exact ⟨_, rfl, Kd.R_nil _ _ _ _ _, HB1.out⟩
        | true =>
          have hf1 : ¬ (f = -1) := by have := HF.out rfl; omega
          obtain ⟨q, hq⟩ : ∃ q, q = vname tt := ⟨_, rfl⟩
          have VC := Aside0.mk (fun w' => vname82_calls tt w')
          rw [← hq] at VC
          have HQ := Aside0.mk hq
          clear hq
          go_wp2_with fail
          refine (VC.out _).mono ?_
          rintro e w2 ⟨rfl, hb2⟩
          have HB2 := Aside0.mk (below_step HB1.out hb2)
          have HK2 := Aside0.mk (blk_below HK1.out hb2)
          clear hb2 o0 o1 o2 o3
          have o0 := (blk_cell HK2.out 0).trans rfl
          have o1 := (blk_cell HK2.out 1).trans rfl
          have o2 := (blk_cell HK2.out 2).trans rfl
          have o3 := (blk_cell HK2.out 3).trans rfl
          cases q with
          | false =>
            have E := Aside0.mk (show res = ([], 4) from by rw [RES.out]; simp [Dk.stp, Dk.dirop, Dk.fieldsOK, Dk.em, Dk.chg, ← BH.out, hb2, hb3, ← HQ.out])
            go_wp2
            go_ret2
            rw [E.out]
            exact ⟨_, rfl, Kd.R_nil _ _ _ _ _, HB2.out⟩
          | true =>
            by_cases hte : tt.toList = nm.toList
            · have hte' : (tt.toList == nm.toList) = true := by simpa using hte
              have E := Aside0.mk (show res = ([], 1) from by rw [RES.out]; simp [Dk.stp, Dk.dirop, Dk.fieldsOK, Dk.em, Dk.chg, ← BH.out, hb2, hb3, ← HQ.out, hte])
              go_wp2
              go_ret2
              rw [E.out]
              exact ⟨_, rfl, Kd.R_nil _ _ _ _ _, HB2.out⟩
            · have hte' : (tt.toList == nm.toList) = false := by simpa using hte
              have E := Aside0.mk (show res = (Dk.put (Dk.drop (Dk.drop l nm) tt) ⟨tt, f⟩, 0) from by
                rw [RES.out]
                simp only [Dk.stp, Dk.dirop, Dk.fieldsOK, Dk.em, Dk.chg, ← BH.out, hb3, ← HQ.out, hte]
                simp
                rw [HFE.out, Dk.fnd, ← BH.out]
                simp)
              go_upto_region 20 with fail
              have tok1 : True := trivial
              have ls1 := Dk.drop_length l nm
              have ls2 := Dk.drop_length (Dk.drop l nm) tt
              have LS1 := Aside0.mk (show (Dk.drop l nm).length ≤ 1000000 from by omega)
              have LS2 := Aside0.mk (show (Dk.drop (Dk.drop l nm) tt).length ≤ 1000000 from by omega)
              have BW := Aside0.mk (Below.refl w2.heap.size w2)
              clear ls1 ls2
              go_region_held3 (fun w' => w'.cell? ⟨O, 1, none⟩ = some (.string nm) ∧ w'.cell? ⟨O, 2, none⟩ = some (.string tt)) (first | (go_keep; done) | exact ⟨(blk_cell (blk_below HK2.out BW.out) 1).trans rfl, (blk_cell (blk_below HK2.out BW.out) 2).trans rfl⟩)
                (first
                  | (go_at_call 84; have tok2 := tok1; refine (without84_calls A c l nm HS.out _ ?h_ hc (by omega)).mono ?_; (case h_ => exact Kd.C_below HR.out HB2.out.drew); rintro e w3 ⟨v3, rfl, h1, h2⟩; obtain ⟨A3, c3, rfl, l3, r3⟩ := Kd.R_reads h1; have C3 := Aside0.mk r3; have L3 := Aside0.mk l3; have BW_ := Aside0.mk (show Below w2.heap.size w2 w3 from below_step (Below.refl w2.heap.size w2).drew h2); clear BW; have BW := BW_; clear BW_; clear h1 h2 l3 r3 tok1 tok2)
                  | (go_at_call 84; refine (without84_calls A3 c3 (Dk.drop l nm) tt (HS.out.drop _) _ C3.out L3.out LS1.out).mono ?_; rintro e w4 ⟨v4, rfl, h1, h2⟩; obtain ⟨A4, c4, rfl, l4, r4⟩ := Kd.R_reads h1; have C4 := Aside0.mk r4; have L4 := Aside0.mk l4; have BW_ := Aside0.mk (below_step BW.out h2); clear BW; have BW := BW_; clear BW_; clear h1 h2 l4 r4)
                  | (go_at_call 83; refine (with83_calls A4 c4 (Dk.drop (Dk.drop l nm) tt) ⟨tt, f⟩ ((HS.out.drop _).drop _) _ C4.out L4.out LS2.out).mono ?_; rintro e w5 ⟨v5, rfl, h1, h2⟩; have H5 := Aside0.mk (Kd.R_lower h1 (Nat.le_trans HB2.out.size BW.out.size)); have BW_ := Aside0.mk (below_step BW.out h2); clear BW; have BW := BW_; clear BW_; clear h1 h2))
              go_wp2
              go_ret2
              rw [E.out]
              exact ⟨_, rfl, H5.out, below_step HB2.out BW.out⟩
    · by_cases hk5 : k = 5
      · subst hk5
        obtain ⟨b2, hb2⟩ : ∃ b, tt.toList.isEmpty = b := ⟨_, rfl⟩
        obtain ⟨b3, hb3⟩ : ∃ b, dat.toList.isEmpty = b := ⟨_, rfl⟩
        cases b2 with
        | false =>
          have E := Aside0.mk (show res = ([], 1) from by rw [RES.out]; simp [Dk.stp, Dk.dirop, Dk.fieldsOK, Dk.em, Dk.chg, ← BH.out, hb2, hb3])
          go_wp2
          go_ret2
          rw [E.out]
          exact ⟨_, rfl, Kd.R_nil _ _ _ _ _, HB1.out⟩
        | true =>
          cases b3 with
          | false =>
            have E := Aside0.mk (show res = ([], 1) from by rw [RES.out]; simp [Dk.stp, Dk.dirop, Dk.fieldsOK, Dk.em, Dk.chg, ← BH.out, hb2, hb3])
            go_wp2
            go_ret2
            rw [E.out]
            exact ⟨_, rfl, Kd.R_nil _ _ _ _ _, HB1.out⟩
          | true =>
            cases bh with
            | false =>
              have hf1 : f = -1 := HF2.out rfl
              subst hf1
              have E := Aside0.mk (show res = ([], 11) from by rw [RES.out]; simp [Dk.stp, Dk.dirop, Dk.fieldsOK, Dk.em, Dk.chg, ← BH.out, hb2, hb3])
              go_wp2
              go_ret2
              rw [E.out]
              exact ⟨_, rfl, Kd.R_nil _ _ _ _ _, HB1.out⟩
            | true =>
              have hf1 : ¬ (f = -1) := by have := HF.out rfl; omega
              have E := Aside0.mk (show res = (Dk.drop l nm, 0) from by rw [RES.out]; simp [Dk.stp, Dk.dirop, Dk.fieldsOK, Dk.em, Dk.chg, ← BH.out, hb2, hb3])
              go_wp2_with fail
              refine (without84_calls A c l nm HS.out w1 (Kd.C_below HR.out HB1.out) hc (by omega)).mono ?_
              rintro e w9 ⟨v, rfl, h1, h2⟩
              have H1 := Aside0.mk (Kd.R_lower h1 HB1.out.size)
              have HB9 := Aside0.mk (below_step HB1.out h2)
              clear h1 h2 o0 o1 o2 o3
              go_wp2
              go_ret2
              rw [E.out]
              exact ⟨_, rfl, H1.out, HB9.out⟩
      · have E := Aside0.mk (show res = ([], 1) from by rw [RES.out]; simp [Dk.stp, Dk.dirop, hk1, hk4, hk5])
        go_wp2
        go_ret2
        rw [E.out]
        exact ⟨_, rfl, Kd.R_nil _ _ _ _ _, HB1.out⟩
end Go.Proofs.Ytnaddmkaakdhoaa.J

end
section
namespace Go.Proofs.Ytnaddmkaakdhoaa.Dk
open J
theorem rep_stp (l : List S69) (n : Int) (o : S49) (r : List S49) : rep l n (o :: r) = if (stp l o n).2 = 0 then rep (stp l o n).1 (if o.f0 = 1 then n + 1 else n) r else none := by
  rw [rep_cons]
  unfold stp
  split
  · rfl
  · rfl
theorem stp_srt {l : List S69} (hs : Srt l) (o : S49) (n : Int) : Srt (stp l o n).1 := by
  unfold stp
  split
  · exact hs.chg o n
  · exact List.Pairwise.nil
theorem stp_length (l : List S69) (o : S49) (n : Int) : (stp l o n).1.length ≤ l.length + 1 := by
  unfold stp
  split
  · exact chg_length l o n
  · exact Nat.zero_le _
theorem chg_nn {l : List S69} (hs : Srt l) (h : ∀ x ∈ l, 0 ≤ x.f1) {o : S49} {n : Int} (hn : 0 ≤ n) : ∀ x ∈ (chg l o n).1, 0 ≤ x.f1 := by
  intro x hx
  unfold chg at hx
  split at hx
  · split at hx
    · split at hx
      · cases hx
      · rcases mem_put.1 hx with rfl | hx
        · exact hn
        · exact h x hx
    · cases hx
  · split at hx
    · split at hx
      · rename_i hh
        split at hx
        · split at hx
          · cases hx
          · rcases mem_put.1 hx with rfl | hx
            · obtain ⟨e, he, _, e2⟩ := pos_mem hs hh
              rw [e2]
              exact h e he
            · exact h x ((drop_sub _ _).subset ((drop_sub _ _).subset hx))
        · cases hx
      · cases hx
    · split at hx
      · exact h x ((drop_sub _ _).subset hx)
      · cases hx
theorem stp_nn {l : List S69} (hs : Srt l) (h : ∀ x ∈ l, 0 ≤ x.f1) {o : S49} {n : Int} (hn : 0 ≤ n) : ∀ x ∈ (stp l o n).1, 0 ≤ x.f1 := by
  unfold stp
  split
  · exact chg_nn hs h hn
  · intro x hx; cases hx
end Go.Proofs.Ytnaddmkaakdhoaa.Dk
namespace Go.Proofs.Ytnaddmkaakdhoaa.J
open Go.RowKit Go.Proofs.YtnaddmkaakdhoaaW.PrintWords Go.Proofs.YtnaddmkaakdhoaaW.PrintLast Go.Proofs.YtnaddmkaakdhoaaW.PrintMore
open Dk (Srt crt rep repd stp)
set_option linter.unusedVariables false
set_option linter.unusedSimpArgs false
set_option maxHeartbeats 8000000 in
set_option maxRecDepth 100000 in
theorem replay69_calls (a : Value) (d : Dsk) (k : Nat) (w : World) (hD : DC w a d) (hk : k ≤ d.ops.length) (hs : Srt d.dur) (hnn : ∀ x ∈ d.dur, 0 ≤ x.f1) (hcr : crt d.ops ≤ d.ino.length) (hsm : Sml 40000 d) :
    Calls Try.prog 69 #[a, .int .i64 (k : Nat)] w fun e w' => ∃ v', e = .returned (.tuple #[v', .bool (repd (rep d.dur ((d.ino.length : Int) - (crt d.ops : Nat)) (d.ops.take k))).2]) ∧ Kd.R k69 69 w' w.heap.size (fun _ => True) v' (repd (rep d.dur ((d.ino.length : Int) - (crt d.ops : Nat)) (d.ops.take k))).1 ∧ Below w.heap.size w w' := by
  obtain ⟨A0, c0, A1, c1, A2, c2, A3, c3, rfl, ⟨r0, l0⟩, ⟨r1, l1⟩, ⟨r2, l2⟩, ⟨r3, l3⟩⟩ := hD
  obtain ⟨n0, n1, n2, n3⟩ := hsm
  have R2 := Aside0.mk r2
  have R3 := Aside0.mk r3
  have S := Aside0.mk hs
  have NN := Aside0.mk hnn
  obtain ⟨l, hl⟩ : ∃ l, l = d.ops.take k := ⟨_, rfl⟩
  have hll : l.length = k := by rw [hl, List.length_take]; omega
  have RL0 := C_head (m := k) r3 hk
  rw [← hl] at RL0 ⊢
  rw [← hll] at RL0
  have RL := Aside0.mk RL0
  have HLL := Aside0.mk hll
  obtain ⟨q, hq⟩ : ∃ q, q = crt d.ops := ⟨_, rfl⟩
  have CR := Aside0.mk (fun w' hC => creates_calls A3 c3 d.ops w' hC l3)
  rw [← hq] at CR hcr ⊢
  obtain ⟨res, hres⟩ : ∃ res, res = repd (rep d.dur ((d.ino.length : Int) - (q : Nat)) l) := ⟨_, rfl⟩
  rw [← hres]
  have HRes := Aside0.mk hres
  clear r0 r1 r2 r3 RL0 hs hnn hq hres hl hll
  obtain ⟨m, hm⟩ : ∃ m : Int, m = (d.ino.length : Int) - (q : Nat) := ⟨_, rfl⟩
  have hm0 : IntKind.i64.wrap ((d.ino.length : Int) - (q : Int)) = m := by rw [IntKind.wrap_i64]; omega
  have hm1 : 0 ≤ m := by omega
  have hm2 : m ≤ 1000000 := by omega
  rw [← hm] at HRes
  clear hm
  go_enter Try.func69, Try.ntmps69
  go_upto_region 1 with fail
  have hb := (Below.refl w.heap.size w).alloc (Nat.le_refl _) (.cells #[.slice A0 d.ino.length c0, .slice A1 d.dir.length c1, .slice A2 d.dur.length c2, .slice A3 d.ops.length c3] 47)
  have hk0 := blk_new w (.cells #[.slice A0 d.ino.length c0, .slice A1 d.dir.length c1, .slice A2 d.dur.length c2, .slice A3 d.ops.length c3] 47)
  generalize w.alloc (.cells #[.slice A0 d.ino.length c0, .slice A1 d.dir.length c1, .slice A2 d.dur.length c2, .slice A3 d.ops.length c3] 47) = W0 at hb hk0 ⊢
  obtain ⟨D, hD⟩ : ∃ D, D = w.heap.size := ⟨_, rfl⟩
  rw [← hD] at hk0 ⊢
  clear hD
  have bn := (Below.refl W0.heap.size W0).alloc (Nat.le_refl _) (.cells #[] 69)
  have QO := Aside0.mk (R69_empty hb.size (blk_new W0 (.cells #[] 69)))
  have QX := Aside0.mk (Kd.C_below R2.out (below_step hb bn))
  have QB := Aside0.mk (below_step hb bn)
  have HK0 := Aside0.mk (blk_below hk0 bn)
  have z2 : (W0.alloc (.cells #[] 69)).cell? ⟨D, 2, none⟩ = some (.slice A2 d.dur.length c2) := (blk_cell HK0.out 2).trans rfl
  clear hb hk0 bn
  go_upto_region 2 with (at_builtin; go_loud ((refine Kd.R_append_rows k69 (Rr := k69.K _) (w0 := w) w.heap.size rfl _ _ 44 69 (.agg #[.string ⟨#[]⟩, .int .i64 0]) 24 rfl Try.underlying44 info69 rfl (by decide) (by decide) (.slice (some ⟨W0.heap.size, 0, none⟩) 0 0) [] d.dur A2 d.dur.length c2 (fun _ => True) (fun _ => False) rfl rfl QO.out QX.out ?q2 ?q3 ?q4 QB.out QB.out.size ?q7 ?_); (case q2 => intro y cs h; obtain rfl := k69_open h; exact k69_mkM _ _ _ _); (case q3 => intro k h; exact h.elim); (case q4 => intro k hk; trivial); (case q7 => simp only [List.length_nil]; omega); intro v1 w1 h1 h2 h3 h4; rw [List.nil_append] at h1; have O1 := Aside0.mk h1; have HB1 := Aside0.mk h2; have K1 := Aside0.mk (blk_grown HK0.out h3 (Kd.R_ne QO.out HK0.out (by decide))); clear h1 h2 h3 h4))
  clear z2 QO QX QB HK0
  have z0 : w1.cell? ⟨D, 0, none⟩ = some (.slice A0 d.ino.length c0) := (blk_cell K1.out 0).trans rfl
  have z3 : w1.cell? ⟨D, 3, none⟩ = some (.slice A3 d.ops.length c3) := (blk_cell K1.out 3).trans rfl
  go_region_held3 (fun w' => w'.cell? ⟨D, 0, none⟩ = some (.slice A0 d.ino.length c0) ∧ w'.cell? ⟨D, 3, none⟩ = some (.slice A3 d.ops.length c3))
    (first | (go_keep; done) | exact ⟨(blk_cell K1.out 0).trans rfl, (blk_cell K1.out 3).trans rfl⟩)
    (first | (go_at_call 67; refine (CR.out _ (Kd.C_below R3.out HB1.out.drew)).mono ?_; rintro e w2 ⟨rfl, hb2⟩; have HB := Aside0.mk (below_step HB1.out.drew hb2); have O := Aside0.mk (Kd.R_below (Kd.R_drew O1.out) hb2); have n_ := Aside0.mk (blk_below (o := (.cells #[.slice A0 d.ino.length c0, .slice A1 d.dir.length c1, .slice A2 d.dur.length c2, .slice A3 d.ops.length c3] 47)) (blk_drew K1.out) hb2); clear K1 hb2; have K1 := n_; clear n_))
  rename_i hq_
  clear hq_ z0 z3 HB1 O1 CR
  have z3 : w2.cell? ⟨D, 3, none⟩ = some (.slice A3 d.ops.length c3) := (blk_cell K1.out 3).trans rfl
  have hk0 : (0 : Int) ≤ (k : Int) := by omega
  have hk1 : (k : Int) ≤ (d.ops.length : Int) := by omega
  have hk2 : (k : Int) ≤ (c3 : Int) := by omega
  go_wp2_with fail
  go_loopg [6, 7, 27] k (fun kx s6 s7 s27 wr => ∃ (l' : List S69) (m' : Int) (i : Nat) (v : Value), v = s6 ∧ s7 = .int .i64 m' ∧ s27 = .int .i64 i ∧ i ≤ k ∧ k - i ≤ kx ∧ Aside0 (rep d.dur m l = rep l' m' (l.drop i)) ∧ Aside0 (Srt l') ∧ Aside0 (∀ x ∈ l', 0 ≤ x.f1) ∧ l'.length ≤ d.dur.length + i ∧ 0 ≤ m' ∧ m' ≤ 1000000 + i ∧ Aside0 (Kd.R k69 69 wr w.heap.size (fun _ => True) v l') ∧ Aside0 (Below w.heap.size w wr))
  case atStart => exact ⟨d.dur, m, 0, v1, rfl, rfl, rfl, Nat.zero_le _, by omega, ⟨rfl⟩, S, NN, by omega, hm1, by omega, O, HB⟩
  case round =>
    clear O HB K1 z3
    obtain ⟨l', m', i, vd, rfl, rfl, rfl, hi, hkx, hrep, hsr, hnn, hll, hm3, hm4, O, HB⟩ := hrel
    obtain ⟨Ad, cd, rfl, ld, rd⟩ := Kd.R_reads O.out
    by_cases hlt : i < k
    · obtain ⟨ad, ea, hx0, hx1, hx2, hx3⟩ := at_T49 RL.out (i : Int) (by omega) (by have := HLL.out; omega)
      cases ea
      obtain ⟨y, hy⟩ : ∃ y, y = rd_T49 l (i : Int) := ⟨_, rfl⟩
      rw [← hy] at hx0 hx1 hx2 hx3
      have hy2 : l.drop i = y :: l.drop (i + 1) := by
        have : i < l.length := by have := HLL.out; omega
        rw [List.drop_eq_getElem_cons this, hy]
        congr 1
        show _ = l.getD i z49
        rw [List.getD_eq_getElem?_getD, List.getElem?_eq_getElem this]
        rfl
      have hrep2 := Aside0.mk (show rep d.dur m l = _ from by rw [hrep.out, hy2, Dk.rep_stp])
      clear hy hy2 hrep
      replace hx0 : wr.cell? (ad.add (i * 4)) = some (.int .i64 y.f0) := (HB.out.cell (World.block_lt_of_cell? w _ hx0)).trans hx0
      replace hx1 : wr.cell? ⟨(ad.add (i * 4)).block, (ad.add (i * 4)).off + 1, none⟩ = some (.string y.f1) := (HB.out.cell (World.block_lt_of_cell? w _ hx1)).trans hx1
      replace hx2 : wr.cell? ⟨(ad.add (i * 4)).block, (ad.add (i * 4)).off + 2, none⟩ = some (.string y.f2) := (HB.out.cell (World.block_lt_of_cell? w _ hx2)).trans hx2
      replace hx3 : wr.cell? ⟨(ad.add (i * 4)).block, (ad.add (i * 4)).off + 3, none⟩ = some (.string y.f3) := (HB.out.cell (World.block_lt_of_cell? w _ hx3)).trans hx3
      have bn := (Below.refl wr.heap.size wr).alloc (Nat.le_refl _) (.cells #[.int .i64 y.f0, .string y.f1, .string y.f2, .string y.f3] 49)
      have kN := blk_new wr (.cells #[.int .i64 y.f0, .string y.f1, .string y.f2, .string y.f3] 49)
      have QB := Aside0.mk (below_step HB.out bn)
      have QN := Aside0.mk kN
      have SC := Aside0.mk (step59_calls Ad cd l' y m' (wr.alloc (.cells #[.int .i64 y.f0, .string y.f1, .string y.f2, .string y.f3] 49)) hsr.out hnn.out (Kd.C_below rd bn) ld (by omega))
      obtain ⟨st, hst⟩ : ∃ st, st = stp l' y m' := ⟨_, rfl⟩
      have SS := Aside0.mk (Dk.stp_srt hsr.out y m')
      have SN := Aside0.mk (Dk.stp_nn hsr.out hnn.out (o := y) hm3)
      have SL := Aside0.mk (Dk.stp_length l' y m')
      rw [← hst] at SC hrep2 SS SN SL
      obtain ⟨sl, se⟩ := st
      have y0 := (blk_cell kN 0).trans rfl
      have y1 := (blk_cell kN 1).trans rfl
      have y2 := (blk_cell kN 2).trans rfl
      have y3 := (blk_cell kN 3).trans rfl
      clear hst bn kN O HB ld rd
      go_wp2_with fail
      refine SC.out.mono ?_
      rintro e w3 ⟨v', rfl, h1, h2⟩
      have HB3 := Aside0.mk (below_step QB.out h2)
      have O3 := Aside0.mk (Kd.R_lower h1 QB.out.size)
      have y0' := (blk_cell (blk_below QN.out h2) 0).trans rfl
      clear h1 h2 y0 y1 y2 y3 SC QB QN
      by_cases he : se = 0
      · subst he
        have hr3 := Aside0.mk (show rep d.dur m l = rep sl (if y.f0 = 1 then m' + 1 else m') (l.drop (i + 1)) from by rw [hrep2.out]; rfl)
        by_cases hk1 : y.f0 = 1
        · rw [if_pos hk1] at hr3
          go_wp2
          go_roundg (k - i - 1)
          case measure => omega
          case rel => exact ⟨sl, m' + 1, i + 1, _, rfl, by first | rfl | (simp; done), by first | rfl | (simp; done), by omega, by omega, hr3, SS, SN, by have h' : sl.length ≤ l'.length + 1 := SL.out; omega, by omega, by omega, O3, HB3⟩
        · rw [if_neg hk1] at hr3
          go_wp2
          go_roundg (k - i - 1)
          case measure => omega
          case rel => exact ⟨sl, m', i + 1, _, rfl, by first | rfl | (simp; done), by first | rfl | (simp; done), by omega, by omega, hr3, SS, SN, by have h' : sl.length ≤ l'.length + 1 := SL.out; omega, by omega, by omega, O3, HB3⟩
      · have hres : res = ([], false) := by
          rw [HRes.out, hrep2.out, if_neg he]
          rfl
        subst hres
        clear HRes
        go_wp2
        go_ret2
        exact ⟨_, rfl, Kd.R_nil _ _ _ _ _, HB3.out⟩
    · have e : res = (l', true) := by
        rw [HRes.out, hrep.out, List.drop_of_length_le (by have := HLL.out; omega)]
        rfl
      subst e
      clear HRes hrep
      go_wp2
      go_ret2
      exact ⟨_, rfl, O.out, HB.out⟩
end Go.Proofs.Ytnaddmkaakdhoaa.J

end
