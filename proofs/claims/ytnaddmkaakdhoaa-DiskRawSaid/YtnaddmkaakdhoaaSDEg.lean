/-
  Texts of this claim, joined, without what the claim does not use: XS XPc J75
-/
import Derived.Test.YtnaddmkaakdhoaaSCAn
import Derived.Test.YtnaddmkaakdhoaaSDEa
import Derived.Test.YtnaddmkaakdhoaaSDEc
section
namespace Go.Proofs.Ytnaddmkaakdhoaa.J
open Go.RowKit Go.Proofs.YtnaddmkaakdhoaaW.PrintWords Go.Proofs.YtnaddmkaakdhoaaW.PrintLast Go.Proofs.YtnaddmkaakdhoaaW.PrintMore
set_option linter.unusedVariables false
set_option linter.unusedSimpArgs false
set_option maxHeartbeats 8000000 in
set_option maxRecDepth 100000 in
theorem sameOps70_calls (A : Option Addr) (c : Nat) (A' : Option Addr) (c' : Nat) (l : List S49) (w : World) (h1 : Kd.C k49 w A l.length l) (hc1 : l.length ≤ c) (h2 : Kd.C k49 w A' l.length l) (hc2 : l.length ≤ c') (hl : l.length ≤ 1000000) :
    Calls Try.prog 70 #[.slice A l.length c, .slice A' l.length c'] w fun e w' => e = .returned (.bool true) ∧ Below w.heap.size w w' := by
  have R1 := Aside0.mk h1
  have R2 := Aside0.mk h2
  obtain ⟨n, hn⟩ : ∃ n, n = l.length := ⟨_, rfl⟩
  have HN := Aside0.mk hn
  have HB := Aside0.mk (Below.refl w.heap.size w)
  rw [← hn] at hc1 hc2 hl ⊢
  clear hn h1 h2
  go_enter Try.func70, Try.ntmps70
  go_wp2_with fail
  go_loopg [13] n (fun kx s wr => ∃ i : Nat, s = .int .i64 i ∧ i ≤ n ∧ n - i ≤ kx ∧ Aside0 (Below w.heap.size w wr))
  case atStart => exact ⟨0, rfl, Nat.zero_le _, by omega, HB⟩
  case round =>
    clear HB
    obtain ⟨i, rfl, hi, hk, HB⟩ := hrel
    by_cases hlt : i < n
    · obtain ⟨ad, ea, hx0, hx1, hx2, hx3⟩ := at_T49 R1.out (i : Int) (by omega) (by have := HN.out; omega)
      cases ea
      obtain ⟨ad', ea, hz0, hz1, hz2, hz3⟩ := at_T49 R2.out (i : Int) (by omega) (by have := HN.out; omega)
      cases ea
      obtain ⟨y, hy⟩ : ∃ y, y = rd_T49 l (i : Int) := ⟨_, rfl⟩
      rw [← hy] at hx0 hx1 hx2 hx3 hz0 hz1 hz2 hz3
      clear hy
      replace hx0 : wr.cell? (ad.add (i * 4)) = some (.int .i64 y.f0) := (HB.out.cell (World.block_lt_of_cell? w _ hx0)).trans hx0
      replace hx1 : wr.cell? ⟨(ad.add (i * 4)).block, (ad.add (i * 4)).off + 1, none⟩ = some (.string y.f1) := (HB.out.cell (World.block_lt_of_cell? w _ hx1)).trans hx1
      replace hx2 : wr.cell? ⟨(ad.add (i * 4)).block, (ad.add (i * 4)).off + 2, none⟩ = some (.string y.f2) := (HB.out.cell (World.block_lt_of_cell? w _ hx2)).trans hx2
      replace hx3 : wr.cell? ⟨(ad.add (i * 4)).block, (ad.add (i * 4)).off + 3, none⟩ = some (.string y.f3) := (HB.out.cell (World.block_lt_of_cell? w _ hx3)).trans hx3
      replace hz0 : wr.cell? (ad'.add (i * 4)) = some (.int .i64 y.f0) := (HB.out.cell (World.block_lt_of_cell? w _ hz0)).trans hz0
      replace hz1 : wr.cell? ⟨(ad'.add (i * 4)).block, (ad'.add (i * 4)).off + 1, none⟩ = some (.string y.f1) := (HB.out.cell (World.block_lt_of_cell? w _ hz1)).trans hz1
      replace hz2 : wr.cell? ⟨(ad'.add (i * 4)).block, (ad'.add (i * 4)).off + 2, none⟩ = some (.string y.f2) := (HB.out.cell (World.block_lt_of_cell? w _ hz2)).trans hz2
      replace hz3 : wr.cell? ⟨(ad'.add (i * 4)).block, (ad'.add (i * 4)).off + 3, none⟩ = some (.string y.f3) := (HB.out.cell (World.block_lt_of_cell? w _ hz3)).trans hz3
      go_wp2_with fail
      go_quiet (fail)
      have hbw := below_step HB.out (pw_below_drewN (Below.refl wr.heap.size wr) nq)
      generalize wr.drewN nq = W3 at hbw ⊢
      have HB3 := Aside0.mk hbw
      clear hbw HB hx0 hx1 hx2 hx3 hz0 hz1 hz2 hz3
      go_wp2
      go_roundg (n - i - 1)
      case measure => omega
      case rel => exact ⟨i + 1, by first | rfl | (simp; done), hlt, by omega, HB3⟩
    · go_wp2
      go_ret
      exact ⟨rfl, HB.out⟩
set_option maxHeartbeats 8000000 in
set_option maxRecDepth 100000 in
theorem same37_calls (a b : Value) (d : Dsk) (w : World) (ha : DC w a d) (hb : DC w b d) (hs : Sml 1000000 d) :
    Calls Try.prog 37 #[a, b] w fun e w' => e = .returned (.bool true) ∧ Below w.heap.size w w' := by
  obtain ⟨A0, c0, A1, c1, A2, c2, A3, c3, rfl, ⟨r0, l0⟩, ⟨r1, l1⟩, ⟨r2, l2⟩, ⟨r3, l3⟩⟩ := ha
  obtain ⟨B0, e0, B1, e1, B2, e2, B3, e3, rfl, ⟨q0, m0⟩, ⟨q1, m1⟩, ⟨q2, m2⟩, ⟨q3, m3⟩⟩ := hb
  have R0 := Aside0.mk r0
  have R1 := Aside0.mk r1
  have R2 := Aside0.mk r2
  have R3 := Aside0.mk r3
  have Q0 := Aside0.mk q0
  have Q1 := Aside0.mk q1
  have Q2 := Aside0.mk q2
  have Q3 := Aside0.mk q3
  obtain ⟨t0, t1, t2, t3⟩ := hs
  have SO := Aside0.mk (fun W hb => sameOps70_calls A3 c3 B3 e3 d.ops W (Kd.C_below r3 hb) l3 (Kd.C_below q3 hb) m3 t3)
  obtain ⟨n0, hn0⟩ : ∃ n, n = d.ino.length := ⟨_, rfl⟩
  obtain ⟨n1, hn1⟩ : ∃ n, n = d.dir.length := ⟨_, rfl⟩
  obtain ⟨n2, hn2⟩ : ∃ n, n = d.dur.length := ⟨_, rfl⟩
  obtain ⟨n3, hn3⟩ : ∃ n, n = d.ops.length := ⟨_, rfl⟩
  have HN0 := Aside0.mk hn0
  have HN1 := Aside0.mk hn1
  have HN2 := Aside0.mk hn2
  rw [← hn0] at l0 m0 t0 ⊢
  rw [← hn1] at l1 m1 t1 ⊢
  rw [← hn2] at l2 m2 t2 ⊢
  rw [← hn3] at l3 m3 t3 SO ⊢
  clear hn0 hn1 hn2 hn3 r0 r1 r2 r3 q0 q1 q2 q3
  go_enter Try.func37, Try.ntmps37
  go_wp2_with fail
  obtain ⟨oA, hoA⟩ : ∃ o : Obj, o = .cells #[.slice A0 n0 c0, .slice A1 n1 c1, .slice A2 n2 c2, .slice A3 n3 c3] 47 := ⟨_, rfl⟩
  obtain ⟨oB, hoB⟩ : ∃ o : Obj, o = .cells #[.slice B0 n0 e0, .slice B1 n1 e1, .slice B2 n2 e2, .slice B3 n3 e3] 47 := ⟨_, rfl⟩
  have hB := below_alloc (below_alloc (Below.refl w.heap.size w) oA) oB
  have k1 := blk_alloc (blk_new w oA) oB
  have k2 := blk_new (w.alloc oA) oB
  rw [show (w.alloc oA).heap.size = w.heap.size + 1 by simp] at k2
  rw [← hoA, ← hoB]
  obtain ⟨X, hX⟩ : ∃ X, X = w.heap.size := ⟨_, rfl⟩
  obtain ⟨Y, hY⟩ : ∃ Y, Y = w.heap.size + 1 := ⟨_, rfl⟩
  rw [← hY] at k2 ⊢
  rw [← hX] at k1 ⊢
  generalize (w.alloc oA).alloc oB = w1 at hB k1 k2 ⊢
  subst hoA hoB
  clear hX hY
  have HB := Aside0.mk hB
  have KX := Aside0.mk k1
  have KY := Aside0.mk k2
  clear hB k1 k2
  have x0 : w1.cell? ⟨X, 0, none⟩ = some (.slice A0 n0 c0) := (blk_cell KX.out 0).trans rfl
  have x1 : w1.cell? ⟨X, 1, none⟩ = some (.slice A1 n1 c1) := (blk_cell KX.out 1).trans rfl
  have x2 : w1.cell? ⟨X, 2, none⟩ = some (.slice A2 n2 c2) := (blk_cell KX.out 2).trans rfl
  have x3 : w1.cell? ⟨X, 3, none⟩ = some (.slice A3 n3 c3) := (blk_cell KX.out 3).trans rfl
  have y0 : w1.cell? ⟨Y, 0, none⟩ = some (.slice B0 n0 e0) := (blk_cell KY.out 0).trans rfl
  have y1 : w1.cell? ⟨Y, 1, none⟩ = some (.slice B1 n1 e1) := (blk_cell KY.out 1).trans rfl
  have y2 : w1.cell? ⟨Y, 2, none⟩ = some (.slice B2 n2 e2) := (blk_cell KY.out 2).trans rfl
  have y3 : w1.cell? ⟨Y, 3, none⟩ = some (.slice B3 n3 e3) := (blk_cell KY.out 3).trans rfl
  go_wp2_with fail
  go_loopg [45] n0 (fun kx s wr => ∃ i : Nat, s = .int .i64 i ∧ i ≤ n0 ∧ n0 - i ≤ kx ∧ Aside0 (Below w.heap.size w wr) ∧ Aside0 (wr.heap[X]? = some (.cells #[.slice A0 n0 c0, .slice A1 n1 c1, .slice A2 n2 c2, .slice A3 n3 c3] 47 (0, 0))) ∧ Aside0 (wr.heap[Y]? = some (.cells #[.slice B0 n0 e0, .slice B1 n1 e1, .slice B2 n2 e2, .slice B3 n3 e3] 47 (0, 0))))
  case atStart => exact ⟨0, rfl, Nat.zero_le _, by omega, HB, KX, KY⟩
  case round =>
    clear HB KX KY x0 x1 x2 x3 y0 y1 y2 y3
    obtain ⟨i, rfl, hi, hk, HB, KX, KY⟩ := hrel
    by_cases hlt : i < n0
    · have x0 : wr.cell? ⟨X, 0, none⟩ = some (.slice A0 n0 c0) := (blk_cell KX.out 0).trans rfl
      have x1 : wr.cell? ⟨X, 1, none⟩ = some (.slice A1 n1 c1) := (blk_cell KX.out 1).trans rfl
      have x2 : wr.cell? ⟨X, 2, none⟩ = some (.slice A2 n2 c2) := (blk_cell KX.out 2).trans rfl
      have x3 : wr.cell? ⟨X, 3, none⟩ = some (.slice A3 n3 c3) := (blk_cell KX.out 3).trans rfl
      have y0 : wr.cell? ⟨Y, 0, none⟩ = some (.slice B0 n0 e0) := (blk_cell KY.out 0).trans rfl
      have y1 : wr.cell? ⟨Y, 1, none⟩ = some (.slice B1 n1 e1) := (blk_cell KY.out 1).trans rfl
      have y2 : wr.cell? ⟨Y, 2, none⟩ = some (.slice B2 n2 e2) := (blk_cell KY.out 2).trans rfl
      have y3 : wr.cell? ⟨Y, 3, none⟩ = some (.slice B3 n3 e3) := (blk_cell KY.out 3).trans rfl
      obtain ⟨ad, ea, hx0, hx1⟩ := at_T67 R0.out (i : Int) (by omega) (by have := HN0.out; omega)
      cases ea
      obtain ⟨ad', ea, hz0, hz1⟩ := at_T67 Q0.out (i : Int) (by omega) (by have := HN0.out; omega)
      cases ea
      obtain ⟨y, hy⟩ : ∃ y, y = rd_T67 d.ino (i : Int) := ⟨_, rfl⟩
      rw [← hy] at hx0 hx1 hz0 hz1
      clear hy
      replace hx0 : wr.cell? (ad.add (i * 2)) = some (.string y.f0) := (HB.out.cell (World.block_lt_of_cell? w _ hx0)).trans hx0
      replace hx1 : wr.cell? ⟨(ad.add (i * 2)).block, (ad.add (i * 2)).off + 1, none⟩ = some (.int .i64 y.f1) := (HB.out.cell (World.block_lt_of_cell? w _ hx1)).trans hx1
      replace hz0 : wr.cell? (ad'.add (i * 2)) = some (.string y.f0) := (HB.out.cell (World.block_lt_of_cell? w _ hz0)).trans hz0
      replace hz1 : wr.cell? ⟨(ad'.add (i * 2)).block, (ad'.add (i * 2)).off + 1, none⟩ = some (.int .i64 y.f1) := (HB.out.cell (World.block_lt_of_cell? w _ hz1)).trans hz1
      have hi0 : (0 : Int) ≤ (i : Int) := by omega
      have hi1 : (i : Int) < (n0 : Int) := by omega
      go_wp2_with fail
      go_quiet (fail)
      have hbq := pw_below_drewN (Below.refl wr.heap.size wr) nq
      have HB3 := Aside0.mk (below_step HB.out hbq)
      have KX3 := Aside0.mk (blk_below KX.out hbq)
      have KY3 := Aside0.mk (blk_below KY.out hbq)
      generalize wr.drewN nq = W3 at HB3 KX3 KY3 ⊢
      clear hbq HB KX KY hx0 hx1 hz0 hz1 x0 x1 x2 x3 y0 y1 y2 y3
      go_wp2
      go_roundg (n0 - i - 1)
      case measure => omega
      case rel => exact ⟨i + 1, by first | rfl | (simp; done), hlt, by omega, HB3, KX3, KY3⟩
    · have x0 : wr.cell? ⟨X, 0, none⟩ = some (.slice A0 n0 c0) := (blk_cell KX.out 0).trans rfl
      have x1 : wr.cell? ⟨X, 1, none⟩ = some (.slice A1 n1 c1) := (blk_cell KX.out 1).trans rfl
      have x2 : wr.cell? ⟨X, 2, none⟩ = some (.slice A2 n2 c2) := (blk_cell KX.out 2).trans rfl
      have x3 : wr.cell? ⟨X, 3, none⟩ = some (.slice A3 n3 c3) := (blk_cell KX.out 3).trans rfl
      have y0 : wr.cell? ⟨Y, 0, none⟩ = some (.slice B0 n0 e0) := (blk_cell KY.out 0).trans rfl
      have y1 : wr.cell? ⟨Y, 1, none⟩ = some (.slice B1 n1 e1) := (blk_cell KY.out 1).trans rfl
      have y2 : wr.cell? ⟨Y, 2, none⟩ = some (.slice B2 n2 e2) := (blk_cell KY.out 2).trans rfl
      have y3 : wr.cell? ⟨Y, 3, none⟩ = some (.slice B3 n3 e3) := (blk_cell KY.out 3).trans rfl
      go_wp2_with fail
      go_loopg [63] n1 (fun kx s wr => ∃ i : Nat, s = .int .i64 i ∧ i ≤ n1 ∧ n1 - i ≤ kx ∧ Aside0 (Below w.heap.size w wr) ∧ Aside0 (wr.heap[X]? = some (.cells #[.slice A0 n0 c0, .slice A1 n1 c1, .slice A2 n2 c2, .slice A3 n3 c3] 47 (0, 0))) ∧ Aside0 (wr.heap[Y]? = some (.cells #[.slice B0 n0 e0, .slice B1 n1 e1, .slice B2 n2 e2, .slice B3 n3 e3] 47 (0, 0))))
      case atStart => exact ⟨0, rfl, Nat.zero_le _, by omega, HB, KX, KY⟩
      case round =>
        clear HB KX KY x0 x1 x2 x3 y0 y1 y2 y3
        obtain ⟨i, rfl, hi, hk, HB, KX, KY⟩ := hrel
        by_cases hlt : i < n1
        · have x0 : wr.cell? ⟨X, 0, none⟩ = some (.slice A0 n0 c0) := (blk_cell KX.out 0).trans rfl
          have x1 : wr.cell? ⟨X, 1, none⟩ = some (.slice A1 n1 c1) := (blk_cell KX.out 1).trans rfl
          have x2 : wr.cell? ⟨X, 2, none⟩ = some (.slice A2 n2 c2) := (blk_cell KX.out 2).trans rfl
          have x3 : wr.cell? ⟨X, 3, none⟩ = some (.slice A3 n3 c3) := (blk_cell KX.out 3).trans rfl
          have y0 : wr.cell? ⟨Y, 0, none⟩ = some (.slice B0 n0 e0) := (blk_cell KY.out 0).trans rfl
          have y1 : wr.cell? ⟨Y, 1, none⟩ = some (.slice B1 n1 e1) := (blk_cell KY.out 1).trans rfl
          have y2 : wr.cell? ⟨Y, 2, none⟩ = some (.slice B2 n2 e2) := (blk_cell KY.out 2).trans rfl
          have y3 : wr.cell? ⟨Y, 3, none⟩ = some (.slice B3 n3 e3) := (blk_cell KY.out 3).trans rfl
          obtain ⟨ad, ea, hx0, hx1⟩ := at_T69 R1.out (i : Int) (by omega) (by have := HN1.out; omega)
          cases ea
          obtain ⟨ad', ea, hz0, hz1⟩ := at_T69 Q1.out (i : Int) (by omega) (by have := HN1.out; omega)
          cases ea
          obtain ⟨y, hy⟩ : ∃ y, y = rd_T69 d.dir (i : Int) := ⟨_, rfl⟩
          rw [← hy] at hx0 hx1 hz0 hz1
          clear hy
          replace hx0 : wr.cell? (ad.add (i * 2)) = some (.string y.f0) := (HB.out.cell (World.block_lt_of_cell? w _ hx0)).trans hx0
          replace hx1 : wr.cell? ⟨(ad.add (i * 2)).block, (ad.add (i * 2)).off + 1, none⟩ = some (.int .i64 y.f1) := (HB.out.cell (World.block_lt_of_cell? w _ hx1)).trans hx1
          replace hz0 : wr.cell? (ad'.add (i * 2)) = some (.string y.f0) := (HB.out.cell (World.block_lt_of_cell? w _ hz0)).trans hz0
          replace hz1 : wr.cell? ⟨(ad'.add (i * 2)).block, (ad'.add (i * 2)).off + 1, none⟩ = some (.int .i64 y.f1) := (HB.out.cell (World.block_lt_of_cell? w _ hz1)).trans hz1
          have hi0 : (0 : Int) ≤ (i : Int) := by omega
          have hi1 : (i : Int) < (n1 : Int) := by omega
          go_wp2_with fail
          go_quiet (fail)
          have hbq := pw_below_drewN (Below.refl wr.heap.size wr) nq
          have HB3 := Aside0.mk (below_step HB.out hbq)
          have KX3 := Aside0.mk (blk_below KX.out hbq)
          have KY3 := Aside0.mk (blk_below KY.out hbq)
          generalize wr.drewN nq = W3 at HB3 KX3 KY3 ⊢
          clear hbq HB KX KY hx0 hx1 hz0 hz1 x0 x1 x2 x3 y0 y1 y2 y3
          go_wp2
          go_roundg (n1 - i - 1)
          case measure => omega
          case rel => exact ⟨i + 1, by first | rfl | (simp; done), hlt, by omega, HB3, KX3, KY3⟩
        · have x0 : wr.cell? ⟨X, 0, none⟩ = some (.slice A0 n0 c0) := (blk_cell KX.out 0).trans rfl
          have x1 : wr.cell? ⟨X, 1, none⟩ = some (.slice A1 n1 c1) := (blk_cell KX.out 1).trans rfl
          have x2 : wr.cell? ⟨X, 2, none⟩ = some (.slice A2 n2 c2) := (blk_cell KX.out 2).trans rfl
          have x3 : wr.cell? ⟨X, 3, none⟩ = some (.slice A3 n3 c3) := (blk_cell KX.out 3).trans rfl
          have y0 : wr.cell? ⟨Y, 0, none⟩ = some (.slice B0 n0 e0) := (blk_cell KY.out 0).trans rfl
          have y1 : wr.cell? ⟨Y, 1, none⟩ = some (.slice B1 n1 e1) := (blk_cell KY.out 1).trans rfl
          have y2 : wr.cell? ⟨Y, 2, none⟩ = some (.slice B2 n2 e2) := (blk_cell KY.out 2).trans rfl
          have y3 : wr.cell? ⟨Y, 3, none⟩ = some (.slice B3 n3 e3) := (blk_cell KY.out 3).trans rfl
          go_wp2_with fail
          go_loopg [81] n2 (fun kx s wr => ∃ i : Nat, s = .int .i64 i ∧ i ≤ n2 ∧ n2 - i ≤ kx ∧ Aside0 (Below w.heap.size w wr) ∧ Aside0 (wr.heap[X]? = some (.cells #[.slice A0 n0 c0, .slice A1 n1 c1, .slice A2 n2 c2, .slice A3 n3 c3] 47 (0, 0))) ∧ Aside0 (wr.heap[Y]? = some (.cells #[.slice B0 n0 e0, .slice B1 n1 e1, .slice B2 n2 e2, .slice B3 n3 e3] 47 (0, 0))))
          case atStart => exact ⟨0, rfl, Nat.zero_le _, by omega, HB, KX, KY⟩
          case round =>
            clear HB KX KY x0 x1 x2 x3 y0 y1 y2 y3
            obtain ⟨i, rfl, hi, hk, HB, KX, KY⟩ := hrel
            by_cases hlt : i < n2
            · have x0 : wr.cell? ⟨X, 0, none⟩ = some (.slice A0 n0 c0) := (blk_cell KX.out 0).trans rfl
              have x1 : wr.cell? ⟨X, 1, none⟩ = some (.slice A1 n1 c1) := (blk_cell KX.out 1).trans rfl
              have x2 : wr.cell? ⟨X, 2, none⟩ = some (.slice A2 n2 c2) := (blk_cell KX.out 2).trans rfl
              have x3 : wr.cell? ⟨X, 3, none⟩ = some (.slice A3 n3 c3) := (blk_cell KX.out 3).trans rfl
              have y0 : wr.cell? ⟨Y, 0, none⟩ = some (.slice B0 n0 e0) := (blk_cell KY.out 0).trans rfl
              have y1 : wr.cell? ⟨Y, 1, none⟩ = some (.slice B1 n1 e1) := (blk_cell KY.out 1).trans rfl
              have y2 : wr.cell? ⟨Y, 2, none⟩ = some (.slice B2 n2 e2) := (blk_cell KY.out 2).trans rfl
              have y3 : wr.cell? ⟨Y, 3, none⟩ = some (.slice B3 n3 e3) := (blk_cell KY.out 3).trans rfl
              obtain ⟨ad, ea, hx0, hx1⟩ := at_T69 R2.out (i : Int) (by omega) (by have := HN2.out; omega)
              cases ea
              obtain ⟨ad', ea, hz0, hz1⟩ := at_T69 Q2.out (i : Int) (by omega) (by have := HN2.out; omega)
              cases ea
              obtain ⟨y, hy⟩ : ∃ y, y = rd_T69 d.dur (i : Int) := ⟨_, rfl⟩
              rw [← hy] at hx0 hx1 hz0 hz1
              clear hy
              replace hx0 : wr.cell? (ad.add (i * 2)) = some (.string y.f0) := (HB.out.cell (World.block_lt_of_cell? w _ hx0)).trans hx0
              replace hx1 : wr.cell? ⟨(ad.add (i * 2)).block, (ad.add (i * 2)).off + 1, none⟩ = some (.int .i64 y.f1) := (HB.out.cell (World.block_lt_of_cell? w _ hx1)).trans hx1
              replace hz0 : wr.cell? (ad'.add (i * 2)) = some (.string y.f0) := (HB.out.cell (World.block_lt_of_cell? w _ hz0)).trans hz0
              replace hz1 : wr.cell? ⟨(ad'.add (i * 2)).block, (ad'.add (i * 2)).off + 1, none⟩ = some (.int .i64 y.f1) := (HB.out.cell (World.block_lt_of_cell? w _ hz1)).trans hz1
              have hi0 : (0 : Int) ≤ (i : Int) := by omega
              have hi1 : (i : Int) < (n2 : Int) := by omega
              go_wp2_with fail
              go_quiet (fail)
              have hbq := pw_below_drewN (Below.refl wr.heap.size wr) nq
              have HB3 := Aside0.mk (below_step HB.out hbq)
              have KX3 := Aside0.mk (blk_below KX.out hbq)
              have KY3 := Aside0.mk (blk_below KY.out hbq)
              generalize wr.drewN nq = W3 at HB3 KX3 KY3 ⊢
              clear hbq HB KX KY hx0 hx1 hz0 hz1 x0 x1 x2 x3 y0 y1 y2 y3
              go_wp2
              go_roundg (n2 - i - 1)
              case measure => omega
              case rel => exact ⟨i + 1, by first | rfl | (simp; done), hlt, by omega, HB3, KX3, KY3⟩
            · have x0 : wr.cell? ⟨X, 0, none⟩ = some (.slice A0 n0 c0) := (blk_cell KX.out 0).trans rfl
              have x1 : wr.cell? ⟨X, 1, none⟩ = some (.slice A1 n1 c1) := (blk_cell KX.out 1).trans rfl
              have x2 : wr.cell? ⟨X, 2, none⟩ = some (.slice A2 n2 c2) := (blk_cell KX.out 2).trans rfl
              have x3 : wr.cell? ⟨X, 3, none⟩ = some (.slice A3 n3 c3) := (blk_cell KX.out 3).trans rfl
              have y0 : wr.cell? ⟨Y, 0, none⟩ = some (.slice B0 n0 e0) := (blk_cell KY.out 0).trans rfl
              have y1 : wr.cell? ⟨Y, 1, none⟩ = some (.slice B1 n1 e1) := (blk_cell KY.out 1).trans rfl
              have y2 : wr.cell? ⟨Y, 2, none⟩ = some (.slice B2 n2 e2) := (blk_cell KY.out 2).trans rfl
              have y3 : wr.cell? ⟨Y, 3, none⟩ = some (.slice B3 n3 e3) := (blk_cell KY.out 3).trans rfl
              go_wp2_with fail
              refine (SO.out wr HB.out).mono ?_
              rintro e w5 ⟨rfl, hb⟩
              have HB5 := Aside0.mk (below_step HB.out hb)
              clear hb
              go_wp2
              go_ret
              exact ⟨rfl, HB5.out⟩
end Go.Proofs.Ytnaddmkaakdhoaa.J

end
section
namespace Go.Proofs.Ytnaddmkaakdhoaa.Dk
open J
theorem DirOK_le {l : List S69} {m n : Nat} (h : DirOK l m) (hn : m ≤ n) : DirOK l n :=
  ⟨fun x hx => ⟨(h.1 x hx).1, (h.1 x hx).2.1, by have := (h.1 x hx).2.2; omega⟩, h.2⟩
theorem crt_take (ops : List S49) (k : Nat) : crt (ops.take k) ≤ crt ops := by
  unfold crt
  exact (List.take_sublist k ops).countP_le
theorem crash_eq {d : Dsk} (h : Valid d) (cs : List Int) : ∃ l' : List S69, crash d cs = settle ⟨d.ino.mapIdx (torn cs), l', d.dur, d.ops⟩ ∧ DirOK l' d.ino.length ∧ rep d.dur ((d.ino.length - crt d.ops : Nat) : Int) (d.ops.take (chs cs 0 (d.ops.length + 1))) = some l' := by
  have h3 := h.crt
  obtain ⟨l', hl⟩ := rep_take h.rep (chs cs 0 (d.ops.length + 1))
  refine ⟨l', ?_, ?_, hl⟩
  · unfold crash
    rw [if_pos (valid_of.2 h), show ((d.ino.length : Int) - (crt d.ops : Nat)) = ((d.ino.length - crt d.ops : Nat) : Int) by omega, hl]
    rfl
  · have := (rep_ok _ _ _ _ h.dur hl).1
    refine DirOK_le this ?_
    have := crt_take d.ops (chs cs 0 (d.ops.length + 1))
    omega
theorem torn_full (cs : List Int) (j : Nat) (x : S67) (h : x.f1 ≤ x.f0.size) : (torn cs j x).f1 = ((torn cs j x).f0.size : Nat) := by
  rw [torn_size cs j x h]; rfl
theorem mapIdx_ok {d : Dsk} (h : Valid d) (cs : List Int) : ∀ x ∈ d.ino.mapIdx (torn cs), inoOK x ∧ x.f1 = (x.f0.size : Nat) := by
  intro x hx
  rw [List.mem_mapIdx] at hx
  obtain ⟨i, hi, e⟩ := hx
  have := h.ino _ (List.getElem_mem hi)
  rw [← e]
  exact ⟨torn_ok cs i this, torn_full cs i _ this.2.1⟩
theorem valid_crash {d : Dsk} (h : Valid d) (cs : List Int) : Valid (crash d cs) := by
  obtain ⟨l', e, hl, _⟩ := crash_eq h cs
  rw [e]
  exact valid_settle (by show DirOK l' (d.ino.mapIdx (torn cs)).length; rw [List.length_mapIdx]; exact hl) (fun x hx => (mapIdx_ok h cs x hx).1)
theorem crash_ops {d : Dsk} (h : Valid d) (cs : List Int) : (crash d cs).ops = [] := by
  obtain ⟨l', e, _⟩ := crash_eq h cs
  rw [e]; rfl
theorem crash_sml {d : Dsk} (h : Valid d) (cs : List Int) {k : Nat} (hs : Sml k d) : Sml (2 * k) (crash d cs) := by
  obtain ⟨l', e, _, hr⟩ := crash_eq h cs
  have hl := rep_length _ _ _ _ hr
  rw [List.length_take] at hl
  have h1 := hs.1; have h2 := hs.2.1; have h3 := hs.2.2.1; have h4 := hs.2.2.2
  rw [e]
  refine ⟨?_, ?_, ?_, Nat.zero_le _⟩
  · show (keptTo l' (d.ino.mapIdx (torn cs)) (d.ino.mapIdx (torn cs)).length).length ≤ 2 * k
    rw [keptTo_length, List.length_mapIdx]
    have := num_le l' d.ino.length
    omega
  · show (l'.map (ren l')).length ≤ 2 * k
    rw [List.length_map]; omega
  · show (l'.map (ren l')).length ≤ 2 * k
    rw [List.length_map]; omega
theorem num_id {l : List S69} : ∀ (j : Nat), (∀ i, i < j → marked l i = true) → num l j = j
  | 0, _ => rfl
  | j + 1, h => by rw [num_succ, num_id j (fun i hi => h i (by omega)), if_pos (h j (by omega))]
theorem keptTo_id {l : List S69} {ino : List S67} : ∀ (j : Nat), j ≤ ino.length → (∀ i, i < j → marked l i = true) → keptTo l ino j = ino.take j
  | 0, _, _ => rfl
  | j + 1, hj, h => by
    rw [keptTo_succ, keptTo_id j (by omega) (fun i hi => h i (by omega)), if_pos (h j (by omega)), List.take_succ_eq_append_getElem (by omega), getD67 (by omega)]
theorem settle_id {d : Dsk} (h : DirOK d.dir d.ino.length) (hm : ∀ i, i < d.ino.length → marked d.dir i = true) (hd : d.dur = d.dir) (ho : d.ops = []) : settle d = d := by
  have e1 : d.dir.map (ren d.dir) = d.dir := by
    conv => rhs; rw [← List.map_id d.dir]
    refine List.map_congr_left (fun x hx => ?_)
    obtain ⟨_, h1, h2⟩ := h.1 x hx
    unfold ren
    rw [num_id x.f1.toNat (fun i hi => hm i (by omega)), Int.toNat_of_nonneg h1]
    rfl
  have e2 : keptTo d.dir d.ino d.ino.length = d.ino := by rw [keptTo_id _ (Nat.le_refl _) hm, List.take_length]
  unfold settle
  rw [e1, e2]
  obtain ⟨a, b, c, o⟩ := d
  simp only at hd ho
  rw [hd, ho]
theorem torn_id (cs : List Int) (j : Nat) (x : S67) (h : x.f1 = (x.f0.size : Nat)) : torn cs j x = x := by
  have h1 : kp cs j x = 0 := by
    unfold kp
    rw [h, show x.f0.size - ((x.f0.size : Nat) : Int).toNat + 1 = 1 by simp]
    have := chs_lt cs (2 * j + 1) (n := 1) (by omega)
    omega
  have h2 : zr cs j x = 0 := by
    unfold zr
    rw [h1, show min 0 4 + 1 = 1 from rfl]
    have := chs_lt cs (2 * j + 2) (n := 1) (by omega)
    omega
  unfold torn
  rw [h1, h2, h]
  obtain ⟨a, b⟩ := x
  simp only at h
  subst h
  have e : zeros 0 = ByteArray.empty := rfl
  rw [e, ByteArray.append_empty]
  simp
theorem crash_twice {d : Dsk} (h : Valid d) (cs ms : List Int) : crash (crash d cs) ms = crash d cs := by
  have hv := valid_crash h cs
  obtain ⟨l', e, hl, _⟩ := crash_eq h cs
  have hfull : ∀ x ∈ (crash d cs).ino, x.f1 = (x.f0.size : Nat) := fun x hx => by
    rw [e] at hx
    exact (mapIdx_ok h cs x (keptTo_mem (Nat.le_refl _) hx)).2
  have hops := crash_ops h cs
  have hdur : (crash d cs).dur = (crash d cs).dir := by rw [e]; rfl
  obtain ⟨c, hc⟩ : ∃ c, c = crash d cs := ⟨_, rfl⟩
  rw [← hc] at hv hfull hops hdur ⊢
  clear hc e hl
  obtain ⟨l2, e2, _, hr⟩ := crash_eq hv ms
  rw [hops] at hr
  simp only [List.take_nil] at hr
  have hl2 : l2 = c.dur := by
    have : rep c.dur ((c.ino.length - crt [] : Nat) : Int) [] = some c.dur := rfl
    rw [this] at hr
    exact (Option.some.inj hr).symm
  have hm : c.ino.mapIdx (torn ms) = c.ino := by
    refine List.ext_getElem (by rw [List.length_mapIdx]) (fun i h1 h2 => ?_)
    rw [List.getElem_mapIdx]
    exact torn_id ms i _ (hfull _ (List.getElem_mem _))
  rw [e2, hm, hl2, hdur, hops]
  have hs : settle ⟨c.ino, c.dir, c.dir, []⟩ = ⟨c.ino, c.dir, c.dir, []⟩ := settle_id hv.dir (fun i hi => by
    have hcr : crt c.ops = 0 := by rw [hops]; rfl
    have := hv.old i (by rw [hcr]; exact hi)
    rw [hdur] at this
    rcases this with h | h <;> exact h) rfl rfl
  rw [hs]
  obtain ⟨a, b, c', o⟩ := c
  simp only at hdur hops
  rw [hdur, hops]
end Go.Proofs.Ytnaddmkaakdhoaa.Dk

end
section
namespace Go.Proofs.Ytnaddmkaakdhoaa.J
open Go.RowKit Go.Proofs.YtnaddmkaakdhoaaW.PrintWords Go.Proofs.YtnaddmkaakdhoaaW.PrintLast Go.Proofs.YtnaddmkaakdhoaaW.PrintMore
attribute [local go_sem] max2_int min2_int max_two min_two max_three min_three max_four min_four   -- for this text's walks alone
set_option linter.unusedVariables false
set_option linter.unusedSimpArgs false

def corporaref39_choice.f (l0 : List Int) (a1 : Int) (a2 : Int) : Option (Int) := if a1 ≥ (l0.length : Int) then (some 0) else (if 0 ≤ a1 then (if a1 < (l0.length : Int) then (if a2 = 0 then (none) else (if (Int.tmod (rd l0 a1) a2) < 0 then (some (wrap64 ((Int.tmod (rd l0 a1) a2) + a2))) else (some (Int.tmod (rd l0 a1) a2)))) else (none)) else (none))
set_option maxHeartbeats 8000000 in
set_option maxRecDepth 100000 in
theorem corporaref39_choice.calls (A0 : Option Addr) (c0 : Nat) (l0 : List Int) (a1 : Int) (a2 : Int) (r : Int) (w : World) (hr0 : Kd.C (Kd.int .i64) w A0 l0.length l0) (hc0 : l0.length ≤ c0) (h : corporaref39_choice.f l0 a1 a2 = some r) :
    Calls Try.prog 75 #[.slice A0 l0.length c0, .int .i64 a1, .int .i64 a2] w fun e w' => e = .returned (.int .i64 r) ∧ Drawn0 w w' := by
  have HR0 := Aside0.mk hr0
  have HC0 := Aside0.mk hc0
  clear hr0 hc0
  have H : (if a1 ≥ (l0.length : Int) then (some 0) else (if 0 ≤ a1 then (if a1 < (l0.length : Int) then (if a2 = 0 then (none) else (if (Int.tmod (rd l0 a1) a2) < 0 then (some (wrap64 ((Int.tmod (rd l0 a1) a2) + a2))) else (some (Int.tmod (rd l0 a1) a2)))) else (none)) else (none))) = some r := h
  clear h
  by_cases c4 : a1 ≥ (l0.length : Int)
  · rw [if_pos c4] at H
    have c4b0 : decide ((l0.length : Int) ≤ a1) = true := decide_eq_true c4
    clear c4
    obtain rfl := Option.some.inj H
    go_enter Try.func75, Try.ntmps75
    go_wp2
    go_ret
    exact ⟨by first | rfl | (simp; done) | (simp [*]; done), by repeat (first | exact Drawn0.refl _ | apply Drawn0.step)⟩
  · rw [if_neg c4] at H
    have c4b0 : decide ((l0.length : Int) ≤ a1) = false := decide_eq_false c4
    clear c4
    by_cases c5 : 0 ≤ a1
    · rw [if_pos c5] at H
      have c5b0 : decide (0 ≤ a1) = true := decide_eq_true c5
      clear c5
      by_cases c6 : a1 < (l0.length : Int)
      · rw [if_pos c6] at H
        have c6b0 : decide (a1 < (l0.length : Int)) = true := decide_eq_true c6
        clear c6
        by_cases c7 : a2 = 0
        · rw [if_pos c7] at H
          exact absurd H (by simp)
        · rw [if_neg c7] at H
          have c7b0 : (a2 == 0) = false := beq_eq_false_iff_ne.mpr c7
          have c7b1 : (a2 != 0) = true := bne_iff_ne.mpr c7
          by_cases c8 : (Int.tmod (rd l0 a1) a2) < 0
          · rw [if_pos c8] at H
            have c8b0 : decide ((Int.tmod (rd l0 a1) a2) < 0) = true := decide_eq_true c8
            clear c8
            obtain rfl := Option.some.inj H
            have p101 : 0 ≤ (a1 : Int) := of_decide_eq_true (by first | (with_reducible assumption) | assumption)
            have q101 : a1 < (l0.length : Int) := of_decide_eq_true (by first | (with_reducible assumption) | assumption)
            obtain ⟨ad101, e101, hx101_0⟩ := Kd.at_int HR0.out a1 p101 q101
            cases e101
            replace p101 := eq_true p101
            replace q101 := eq_true q101
            go_enter Try.func75, Try.ntmps75
            go_wp2
            go_ret
            exact ⟨by first | rfl | (simp; done) | (simp [*]; done), by repeat (first | exact Drawn0.refl _ | apply Drawn0.step)⟩
          · rw [if_neg c8] at H
            have c8b0 : decide ((Int.tmod (rd l0 a1) a2) < 0) = false := decide_eq_false c8
            clear c8
            obtain rfl := Option.some.inj H
            have p101 : 0 ≤ (a1 : Int) := of_decide_eq_true (by first | (with_reducible assumption) | assumption)
            have q101 : a1 < (l0.length : Int) := of_decide_eq_true (by first | (with_reducible assumption) | assumption)
            obtain ⟨ad101, e101, hx101_0⟩ := Kd.at_int HR0.out a1 p101 q101
            cases e101
            replace p101 := eq_true p101
            replace q101 := eq_true q101
            go_enter Try.func75, Try.ntmps75
            go_wp2
            go_ret
            exact ⟨by first | rfl | (simp; done) | (simp [*]; done), by repeat (first | exact Drawn0.refl _ | apply Drawn0.step)⟩
      · rw [if_neg c6] at H
        exact absurd H (by simp)
    · rw [if_neg c5] at H
      exact absurd H (by simp)

end Go.Proofs.Ytnaddmkaakdhoaa.J

end
