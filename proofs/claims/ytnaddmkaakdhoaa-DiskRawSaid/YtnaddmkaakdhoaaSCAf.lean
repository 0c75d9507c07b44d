/-
  Texts of this claim, joined, without what the claim does not use: XDc XDv
-/
import Derived.Lib.SliceRun
import Derived.Deep.RegionHeld3
import Derived.Test.YtnaddmkaakdhoaaSCAe
section
namespace Go.Proofs.Ytnaddmkaakdhoaa.J
open Go.RowKit Go.Proofs.YtnaddmkaakdhoaaW.PrintWords Go.Proofs.YtnaddmkaakdhoaaW.PrintLast Go.Proofs.YtnaddmkaakdhoaaW.PrintMore
open Dk
set_option linter.unusedVariables false
set_option linter.unusedSimpArgs false
set_option maxHeartbeats 4000000 in
set_option maxRecDepth 100000 in
theorem clone69_calls (A : Option Addr) (c : Nat) (l : List S69) (w : World) (hr : Kd.C k69 w A l.length l) (hc : l.length ≤ c) (hm : l.length ≤ 1000000) :
    Calls Try.prog 90 #[.slice A l.length c] w fun e w' => ∃ v, e = .returned v ∧ Kd.R k69 69 w' w.heap.size (fun _ => True) v l ∧ Below w.heap.size w w' := by
  have HR := Aside0.mk hr
  have q44 : ∀ (w : World) (a : Option Addr) (n c n' c' : Nat), (binOp .eql 44 (.slice a n c) (.slice none n' c')).run Try.prog w = .ok (.bool a.isNone) w := fun w a n c n' c' => Lib.run_eql_slice_nil w _ _ a n c n' c' Try.underlying44
  rcases A with _ | ad
  · have h0 : l = [] := by
      have := hr.2.2
      cases l with
      | nil => rfl
      | cons x l => obtain ⟨ad, h, _⟩ := this (by simp); cases h
    subst h0
    clear hr
    go_enter Try.func90, Try.ntmps90
    go_wp2
    go_ret
    exact ⟨_, rfl, Kd.R_nil _ _ _ _ _, Below.refl _ _⟩
  · clear hr
    go_enter Try.func90, Try.ntmps90
    go_wp2_with (at_builtin; go_loud (refine Kd.R_append_rows k69 (Rr := k69.K _) (w0 := w) w.heap.size rfl _ _ 44 69 (.agg #[.string ⟨#[]⟩, .int .i64 0]) 24 rfl Try.underlying44 info69 rfl (by decide) (by decide) _ [] l (some ad) l.length c (fun _ => True) (fun _ => False) rfl rfl ?q1 (Kd.C_below HR.out ((Below.refl _ _).alloc (Nat.le_refl _) _)) ?q2 ?q3 ?q4 ?q5 ?q6 ?q7 ?_); (case q1 => exact ⟨fun _ _ => trivial, OwnRow.lit w w.heap.size (Reps.none _ _) (Nat.le_refl _) (by simp)⟩); (case q2 => intro x cs h; obtain rfl := k69_open h; exact k69_mkM _ _ _ _); (case q3 => intro k h; exact h.elim); (case q4 => intro _ _; trivial); (case q5 => exact (Below.refl _ _).alloc (Nat.le_refl _) _); (case q6 => simp); (case q7 => simp; omega); intro v1 w1 h1 h2 h3 h4; have H1 := Aside0.mk h1; have H2 := Aside0.mk h2; clear h1 h2 h3 h4)
    go_ret
    exact ⟨_, rfl, H1.out, H2.out⟩
set_option maxHeartbeats 4000000 in
set_option maxRecDepth 100000 in
theorem clone67_calls (A : Option Addr) (c : Nat) (l : List S67) (w : World) (hr : Kd.C k67 w A l.length l) (hc : l.length ≤ c) (hm : l.length ≤ 1000000) :
    Calls Try.prog 93 #[.slice A l.length c] w fun e w' => ∃ v, e = .returned v ∧ Kd.R k67 67 w' w.heap.size (fun _ => True) v l ∧ Below w.heap.size w w' := by
  have HR := Aside0.mk hr
  have q43 : ∀ (w : World) (a : Option Addr) (n c n' c' : Nat), (binOp .eql 43 (.slice a n c) (.slice none n' c')).run Try.prog w = .ok (.bool a.isNone) w := fun w a n c n' c' => Lib.run_eql_slice_nil w _ _ a n c n' c' Try.underlying43
  rcases A with _ | ad
  · have h0 : l = [] := by
      have := hr.2.2
      cases l with
      | nil => rfl
      | cons x l => obtain ⟨ad, h, _⟩ := this (by simp); cases h
    subst h0
    clear hr
    go_enter Try.func93, Try.ntmps93
    go_wp2
    go_ret
    exact ⟨_, rfl, Kd.R_nil _ _ _ _ _, Below.refl _ _⟩
  · clear hr
    go_enter Try.func93, Try.ntmps93
    go_wp2_with (at_builtin; go_loud (refine Kd.R_append_rows k67 (Rr := k67.K _) (w0 := w) w.heap.size rfl _ _ 43 67 (.agg #[.string ⟨#[]⟩, .int .i64 0]) 24 rfl Try.underlying43 info67 rfl (by decide) (by decide) _ [] l (some ad) l.length c (fun _ => True) (fun _ => False) rfl rfl ?q1 (Kd.C_below HR.out ((Below.refl _ _).alloc (Nat.le_refl _) _)) ?q2 ?q3 ?q4 ?q5 ?q6 ?q7 ?_); (case q1 => exact ⟨fun _ _ => trivial, OwnRow.lit w w.heap.size (Reps.none _ _) (Nat.le_refl _) (by simp)⟩); (case q2 => intro x cs h; obtain rfl := k67_open h; exact k67_mkM _ _ _ _); (case q3 => intro k h; exact h.elim); (case q4 => intro _ _; trivial); (case q5 => exact (Below.refl _ _).alloc (Nat.le_refl _) _); (case q6 => simp); (case q7 => simp; omega); intro v1 w1 h1 h2 h3 h4; have H1 := Aside0.mk h1; have H2 := Aside0.mk h2; clear h1 h2 h3 h4)
    go_ret
    exact ⟨_, rfl, H1.out, H2.out⟩
set_option maxHeartbeats 4000000 in
set_option maxRecDepth 100000 in
theorem clone49_calls (A : Option Addr) (c : Nat) (l : List S49) (w : World) (hr : Kd.C k49 w A l.length l) (hc : l.length ≤ c) (hm : l.length ≤ 1000000) :
    Calls Try.prog 94 #[.slice A l.length c] w fun e w' => ∃ v, e = .returned v ∧ Kd.R k49 49 w' w.heap.size (fun _ => True) v l ∧ Below w.heap.size w w' := by
  have HR := Aside0.mk hr
  have q45 : ∀ (w : World) (a : Option Addr) (n c n' c' : Nat), (binOp .eql 45 (.slice a n c) (.slice none n' c')).run Try.prog w = .ok (.bool a.isNone) w := fun w a n c n' c' => Lib.run_eql_slice_nil w _ _ a n c n' c' Try.underlying45
  rcases A with _ | ad
  · have h0 : l = [] := by
      have := hr.2.2
      cases l with
      | nil => rfl
      | cons x l => obtain ⟨ad, h, _⟩ := this (by simp); cases h
    subst h0
    clear hr
    go_enter Try.func94, Try.ntmps94
    go_wp2
    go_ret
    exact ⟨_, rfl, Kd.R_nil _ _ _ _ _, Below.refl _ _⟩
  · clear hr
    go_enter Try.func94, Try.ntmps94
    go_wp2_with (at_builtin; go_loud (refine Kd.R_append_rows k49 (Rr := k49.K _) (w0 := w) w.heap.size rfl _ _ 45 49 (.agg #[.int .i64 0, .string ⟨#[]⟩, .string ⟨#[]⟩, .string ⟨#[]⟩]) 56 rfl Try.underlying45 info49 rfl (by decide) (by decide) _ [] l (some ad) l.length c (fun _ => True) (fun _ => False) rfl rfl ?q1 (Kd.C_below HR.out ((Below.refl _ _).alloc (Nat.le_refl _) _)) ?q2 ?q3 ?q4 ?q5 ?q6 ?q7 ?_); (case q1 => exact ⟨fun _ _ => trivial, OwnRow.lit w w.heap.size (Reps.none _ _) (Nat.le_refl _) (by simp)⟩); (case q2 => intro x cs h; obtain rfl := k49_open h; exact k49_mkM _ _ _ _); (case q3 => intro k h; exact h.elim); (case q4 => intro _ _; trivial); (case q5 => exact (Below.refl _ _).alloc (Nat.le_refl _) _); (case q6 => simp); (case q7 => simp; omega); intro v1 w1 h1 h2 h3 h4; have H1 := Aside0.mk h1; have H2 := Aside0.mk h2; clear h1 h2 h3 h4)
    go_ret
    exact ⟨_, rfl, H1.out, H2.out⟩
end Go.Proofs.Ytnaddmkaakdhoaa.J

end
section
namespace Go.Proofs.Ytnaddmkaakdhoaa.J
open Go.RowKit Go.Proofs.YtnaddmkaakdhoaaW.PrintWords Go.Proofs.YtnaddmkaakdhoaaW.PrintLast Go.Proofs.YtnaddmkaakdhoaaW.PrintMore
set_option linter.unusedVariables false
set_option linter.unusedSimpArgs false

structure Dsk where
  ino : List S67
  dir : List S69
  dur : List S69
  ops : List S49

def DC (w : World) (a : Value) (d : Dsk) : Prop :=
  ∃ A0 c0 A1 c1 A2 c2 A3 c3, a = .agg #[.slice A0 d.ino.length c0, .slice A1 d.dir.length c1, .slice A2 d.dur.length c2, .slice A3 d.ops.length c3] ∧
    (Kd.C k67 w A0 d.ino.length d.ino ∧ d.ino.length ≤ c0) ∧ (Kd.C k69 w A1 d.dir.length d.dir ∧ d.dir.length ≤ c1) ∧ (Kd.C k69 w A2 d.dur.length d.dur ∧ d.dur.length ≤ c2) ∧ (Kd.C k49 w A3 d.ops.length d.ops ∧ d.ops.length ≤ c3)
def DR (w : World) (T : Nat) (a : Value) (d : Dsk) : Prop :=
  ∃ v0 v1 v2 v3, a = .agg #[v0, v1, v2, v3] ∧ Kd.R k67 67 w T (fun _ => True) v0 d.ino ∧ Kd.R k69 69 w T (fun k => some k ≠ v2.ownBlock) v1 d.dir ∧ Kd.R k69 69 w T (fun k => some k ≠ v1.ownBlock) v2 d.dur ∧ Kd.R k49 49 w T (fun _ => True) v3 d.ops
theorem DC.below {w w1 : World} {a : Value} {d : Dsk} (h : DC w a d) (hb : Below w.heap.size w w1) : DC w1 a d := by
  obtain ⟨A0, c0, A1, c1, A2, c2, A3, c3, e, h0, h1, h2, h3⟩ := h
  exact ⟨A0, c0, A1, c1, A2, c2, A3, c3, e, ⟨Kd.C_below h0.1 hb, h0.2⟩, ⟨Kd.C_below h1.1 hb, h1.2⟩, ⟨Kd.C_below h2.1 hb, h2.2⟩, ⟨Kd.C_below h3.1 hb, h3.2⟩⟩
theorem DR.below {w w1 : World} {T : Nat} {a : Value} {d : Dsk} (h : DR w T a d) (hb : Below w.heap.size w w1) : DR w1 T a d := by
  obtain ⟨v0, v1, v2, v3, e, h0, h1, h2, h3⟩ := h
  exact ⟨v0, v1, v2, v3, e, Kd.R_below h0 hb, Kd.R_below h1 hb, Kd.R_below h2 hb, Kd.R_below h3 hb⟩
theorem DR.lower {w : World} {T T' : Nat} {a : Value} {d : Dsk} (h : DR w T a d) (ht : T' ≤ T) : DR w T' a d := by
  obtain ⟨v0, v1, v2, v3, e, h0, h1, h2, h3⟩ := h
  exact ⟨v0, v1, v2, v3, e, Kd.R_lower h0 ht, Kd.R_lower h1 ht, Kd.R_lower h2 ht, Kd.R_lower h3 ht⟩
theorem DR.reads {w : World} {T : Nat} {a : Value} {d : Dsk} (h : DR w T a d) : DC w a d := by
  obtain ⟨v0, v1, v2, v3, e, h0, h1, h2, h3⟩ := h
  obtain ⟨A0, c0, rfl, l0, r0⟩ := Kd.R_reads h0
  obtain ⟨A1, c1, rfl, l1, r1⟩ := Kd.R_reads h1
  obtain ⟨A2, c2, rfl, l2, r2⟩ := Kd.R_reads h2
  obtain ⟨A3, c3, rfl, l3, r3⟩ := Kd.R_reads h3
  exact ⟨A0, c0, A1, c1, A2, c2, A3, c3, e, ⟨r0, l0⟩, ⟨r1, l1⟩, ⟨r2, l2⟩, ⟨r3, l3⟩⟩
theorem DR.set47 {w : World} {T : Nat} {a : Value} {d : Dsk} (h : DR w T a d) {g : Nat} {cells : Array Value} (hb : w.heap[g]? = some (.cells cells 47 (0, 0))) (j : Nat) (u : Value) : DR (w.setCell ⟨g, j, none⟩ u) T a d := by
  obtain ⟨v0, v1, v2, v3, e, h0, h1, h2, h3⟩ := h
  exact ⟨v0, v1, v2, v3, e, Kd.R_set h0 hb (by decide) j u, Kd.R_set h1 hb (by decide) j u, Kd.R_set h2 hb (by decide) j u, Kd.R_set h3 hb (by decide) j u⟩
def Sml (n : Nat) (d : Dsk) : Prop := d.ino.length ≤ n ∧ d.dir.length ≤ n ∧ d.dur.length ≤ n ∧ d.ops.length ≤ n

set_option maxHeartbeats 8000000 in
set_option maxRecDepth 100000 in
theorem clone_calls (a : Value) (d : Dsk) (hn : Sml 1000000 d) (w : World) (h : DC w a d) :
    Calls Try.prog 72 #[a] w fun e w' => ∃ v, e = .returned v ∧ DR w' w.heap.size v d ∧ Below w.heap.size w w' := by
  obtain ⟨A0, c0, A1, c1, A2, c2, A3, c3, rfl, ⟨r0, l0⟩, ⟨r1, l1⟩, ⟨r2, l2⟩, ⟨r3, l3⟩⟩ := h
  obtain ⟨n0, n1, n2, n3⟩ := hn
  have R0 := Aside0.mk r0
  have R1 := Aside0.mk r1
  have R2 := Aside0.mk r2
  have R3 := Aside0.mk r3
  clear r0 r1 r2 r3
  go_enter Try.func72, Try.ntmps72
  go_wp2_with fail
  have hB := ((Below.refl w.heap.size w).alloc (Nat.le_refl _) (.cells #[.slice A0 d.ino.length c0, .slice A1 d.dir.length c1, .slice A2 d.dur.length c2, .slice A3 d.ops.length c3] 47)).alloc (by simp) (.cells #[.slice none 0 0, .slice none 0 0, .slice none 0 0, .slice none 0 0] 47)
  have k1 := blk_alloc (blk_new w (.cells #[.slice A0 d.ino.length c0, .slice A1 d.dir.length c1, .slice A2 d.dur.length c2, .slice A3 d.ops.length c3] 47)) (.cells #[.slice none 0 0, .slice none 0 0, .slice none 0 0, .slice none 0 0] 47)
  have k2 := blk_new (w.alloc (.cells #[.slice A0 d.ino.length c0, .slice A1 d.dir.length c1, .slice A2 d.dur.length c2, .slice A3 d.ops.length c3] 47)) (.cells #[.slice none 0 0, .slice none 0 0, .slice none 0 0, .slice none 0 0] 47)
  rw [show (w.alloc (.cells #[.slice A0 d.ino.length c0, .slice A1 d.dir.length c1, .slice A2 d.dur.length c2, .slice A3 d.ops.length c3] 47)).heap.size = w.heap.size + 1 by simp] at k2
  generalize (w.alloc (.cells #[.slice A0 d.ino.length c0, .slice A1 d.dir.length c1, .slice A2 d.dur.length c2, .slice A3 d.ops.length c3] 47)).alloc (.cells #[.slice none 0 0, .slice none 0 0, .slice none 0 0, .slice none 0 0] 47) = W at hB k1 k2 ⊢
  have g0 := (blk_cell k1 0).trans rfl
  have g1 := (blk_cell k1 1).trans rfl
  have g2 := (blk_cell k1 2).trans rfl
  have g3 := (blk_cell k1 3).trans rfl
  obtain ⟨B, hBe⟩ : ∃ B, B = w.heap.size := ⟨_, rfl⟩
  have HB := Aside0.mk hB
  have K1 := Aside0.mk k1
  have K2 := Aside0.mk k2
  clear hB k1 k2
  go_region_held3 (fun w' => w'.cell? ⟨w.heap.size, 0, none⟩ = some (.slice A0 d.ino.length c0) ∧ w'.cell? ⟨w.heap.size, 1, none⟩ = some (.slice A1 d.dir.length c1) ∧ w'.cell? ⟨w.heap.size, 2, none⟩ = some (.slice A2 d.dur.length c2) ∧ w'.cell? ⟨w.heap.size, 3, none⟩ = some (.slice A3 d.ops.length c3))
    (first | go_keep | exact ⟨(blk_cell K1.out 0).trans rfl, (blk_cell K1.out 1).trans rfl, (blk_cell K1.out 2).trans rfl, (blk_cell K1.out 3).trans rfl⟩)
    (first
      | (go_at_call 93; refine (clone67_calls A0 c0 d.ino _ (Kd.C_below R0.out HB.out.drew) l0 n0).mono ?_; rintro e w1 ⟨v0, rfl, h1, h2⟩; obtain ⟨B0, e0, hv0⟩ := Kd.R_slice h1; subst hv0; have O0 := Aside0.mk (Kd.R_lower h1 HB.out.size); have n1_ := Aside0.mk (blk_below (o := .cells #[.slice A0 d.ino.length c0, .slice A1 d.dir.length c1, .slice A2 d.dur.length c2, .slice A3 d.ops.length c3] 47) (blk_drew K1.out) h2); have n2_ := Aside0.mk (blk_below (o := .cells #[.slice none 0 0, .slice none 0 0, .slice none 0 0, .slice none 0 0] 47) (blk_drew K2.out) h2); have n3_ := Aside0.mk (below_step HB.out.drew h2); clear K1 K2 HB; have K1 := n1_; have K2 := n2_; have HB := n3_; clear n1_ n2_ n3_; clear h1 h2)
      | (go_at_call 90; refine (clone69_calls A1 c1 d.dir _ (Kd.C_below R1.out HB.out) l1 n1).mono ?_; rintro e w1 ⟨v1, rfl, h1, h2⟩; obtain ⟨B1, e1, hv1⟩ := Kd.R_slice h1; subst hv1; have O1 := Aside0.mk (Kd.R_lower h1 HB.out.size); have m0_ := Aside0.mk (Kd.R_below O0.out h2); clear O0; have O0 := m0_; clear m0_; have n1_ := Aside0.mk (blk_below (o := .cells #[.slice A0 d.ino.length c0, .slice A1 d.dir.length c1, .slice A2 d.dur.length c2, .slice A3 d.ops.length c3] 47) (K1.out) h2); have n2_ := Aside0.mk (blk_below (o := .cells #[.slice none 0 0, .slice none 0 0, .slice none 0 0, .slice none 0 0] 47) (K2.out) h2); have n3_ := Aside0.mk (below_step HB.out h2); clear K1 K2 HB; have K1 := n1_; have K2 := n2_; have HB := n3_; clear n1_ n2_ n3_; clear h1 h2)
      | (go_at_call 90; refine (clone69_calls A2 c2 d.dur _ (Kd.C_below R2.out HB.out) l2 n2).mono ?_; rintro e w1 ⟨v2, rfl, h1, h2⟩; obtain ⟨B2, e2, hv2⟩ := Kd.R_slice h1; subst hv2; obtain ⟨iq, hiq⟩ := Kd.R_own O1.out; have m1 := Kd.R_mono (ok' := fun k => some k ≠ (Value.slice B2 d.dur.length e2).ownBlock) (Kd.R_bound O1.out) (fun k hk he => by obtain ⟨ir, hir⟩ := Kd.R_own h1; have u1 := own_base hir k he.symm; have u2 := hk.2.2.1; omega); have O2 := Aside0.mk (Kd.R_mono (ok' := fun k => some k ≠ (Value.slice B1 d.dir.length e1).ownBlock) (Kd.R_lower (Kd.R_new h1 hiq) HB.out.size) (fun k hk => hk.2)); clear O1; have O1 := Aside0.mk m1; clear m1 hiq; have m0_ := Aside0.mk (Kd.R_below O0.out h2); clear O0; have O0 := m0_; clear m0_; have m1_ := Aside0.mk (Kd.R_below O1.out h2); clear O1; have O1 := m1_; clear m1_; have n1_ := Aside0.mk (blk_below (o := .cells #[.slice A0 d.ino.length c0, .slice A1 d.dir.length c1, .slice A2 d.dur.length c2, .slice A3 d.ops.length c3] 47) (K1.out) h2); have n2_ := Aside0.mk (blk_below (o := .cells #[.slice none 0 0, .slice none 0 0, .slice none 0 0, .slice none 0 0] 47) (K2.out) h2); have n3_ := Aside0.mk (below_step HB.out h2); clear K1 K2 HB; have K1 := n1_; have K2 := n2_; have HB := n3_; clear n1_ n2_ n3_; clear h1 h2)
      | (go_at_call 94; refine (clone49_calls A3 c3 d.ops _ (Kd.C_below R3.out HB.out) l3 n3).mono ?_; rintro e w1 ⟨v3, rfl, h1, h2⟩; obtain ⟨B3, e3, hv3⟩ := Kd.R_slice h1; subst hv3; have O3 := Aside0.mk (Kd.R_lower h1 HB.out.size); have m0_ := Aside0.mk (Kd.R_below O0.out h2); clear O0; have O0 := m0_; clear m0_; have m1_ := Aside0.mk (Kd.R_below O1.out h2); clear O1; have O1 := m1_; clear m1_; have m2_ := Aside0.mk (Kd.R_below O2.out h2); clear O2; have O2 := m2_; clear m2_; have n1_ := Aside0.mk (blk_below (o := .cells #[.slice A0 d.ino.length c0, .slice A1 d.dir.length c1, .slice A2 d.dur.length c2, .slice A3 d.ops.length c3] 47) (K1.out) h2); have n2_ := Aside0.mk (blk_below (o := .cells #[.slice none 0 0, .slice none 0 0, .slice none 0 0, .slice none 0 0] 47) (K2.out) h2); have n3_ := Aside0.mk (below_step HB.out h2); clear K1 K2 HB; have K1 := n1_; have K2 := n2_; have HB := n3_; clear n1_ n2_ n3_; clear h1 h2; have z0 := (blk_cell K2.out 0).trans rfl; have z1 := (blk_cell K2.out 1).trans rfl; have z2 := (blk_cell K2.out 2).trans rfl; have z3 := (blk_cell K2.out 3).trans rfl; have f0 := blk_frozen K2.out 0; have f1 := blk_frozen K2.out 1; have f2 := blk_frozen K2.out 2; have f3 := blk_frozen K2.out 3))
  rename_i hq
  clear hq z0 z1 z2 z3 f0 f1 f2 f3 g0 g1 g2 g3
  have D0 : DR w1 w.heap.size (.agg #[.slice B0 d.ino.length e0, .slice B1 d.dir.length e1, .slice B2 d.dur.length e2, .slice B3 d.ops.length e3]) d := ⟨_, _, _, _, rfl, O0.out, O1.out, O2.out, O3.out⟩
  have q0 := K2.out
  have q1 := blk_put q0 0 (.slice B0 d.ino.length e0) rfl
  have q2 := blk_put q1 1 (.slice B1 d.dir.length e1) rfl
  have q3 := blk_put q2 2 (.slice B2 d.dur.length e2) rfl
  have q4 := blk_put q3 3 (.slice B3 d.ops.length e3) rfl
  have D4 := Aside0.mk (DR.set47 (DR.set47 (DR.set47 (DR.set47 D0 q0 0 (.slice B0 d.ino.length e0)) q1 1 (.slice B1 d.dir.length e1)) q2 2 (.slice B2 d.dur.length e2)) q3 3 (.slice B3 d.ops.length e3))
  have Q4 := Aside0.mk q4
  have HB2 := Aside0.mk ((((HB.out.setCell (p := ⟨w.heap.size + 1, 0, none⟩) (Nat.le_succ _) (.slice B0 d.ino.length e0)).setCell (p := ⟨w.heap.size + 1, 1, none⟩) (Nat.le_succ _) (.slice B1 d.dir.length e1)).setCell (p := ⟨w.heap.size + 1, 2, none⟩) (Nat.le_succ _) (.slice B2 d.dur.length e2)).setCell (p := ⟨w.heap.size + 1, 3, none⟩) (Nat.le_succ _) (.slice B3 d.ops.length e3))
  clear D0 q0 q1 q2 q3 q4 HB K1 K2 O0 O1 O2 O3
  go_wp2
  refine bodyPost_ret (results_cell_row rfl _ _ (w.heap.size + 1) 47 _ (0, 0) _ rfl Q4.out Try.underlying47 rfl (by kernel_rfl)) rfl ?_
  exact ⟨_, rfl, D4.out, HB2.out⟩
end Go.Proofs.Ytnaddmkaakdhoaa.J

end
