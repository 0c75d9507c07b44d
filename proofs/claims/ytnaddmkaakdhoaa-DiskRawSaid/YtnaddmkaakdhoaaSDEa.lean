/-
  Texts of this claim, joined, without what the claim does not use: WWords J0 XDm XDx XPd XDR XDL XDC XT J46
-/
import Derived.Test.YtnaddmkaakdhoaaSCAn
section
set_option linter.unusedVariables false
set_option linter.unusedSimpArgs false
namespace Go.Proofs.YtnaddmkaakdhoaaW.PrintWords
open Go.RowKit

section
variable {P : Program} {ops : Array Oper} {rest : List Oper} {o : Oper} {a : Act} {Q : Exit → Act → World → Prop}

end

section
variable {P : Program}
end
section
variable {P : Program} {ops : Array Oper} {rest : List Oper} {o : Oper} {a : Act} {Q : Exit → Act → World → Prop}
end

section
variable {P : Program} {ops : Array Oper} {rest : List Oper} {o : Oper} {a : Act} {Q : Exit → Act → World → Prop}
end

section
variable {P : Program} {ops : Array Oper} {o : Oper} {a : Act} {Q : Exit → Act → World → Prop} {K : Act → World → Prop}
end
section
variable {α : Type} {enc : α → Value} {d : α}
theorem encs_get (xs : List α) (j : Nat) (h : j < xs.length) : (encs enc xs)[j]? = some (enc (xs.getD j d)) := by
  simp [encs, List.getElem?_eq_getElem h, List.getD_eq_getElem?_getD]
end
section
variable {α : Type} {P : Program} {ops : Array Oper} {rest : List Oper} {o : Oper} {a : Act} {Q : Exit → Act → World → Prop}
theorem print_append_row_of {w0 W : World} (enc : α → Value) (d : α) (base : Nat) (hgd : o.guard = none) (s x : Operand) (t e : TypeId) (z : Value) (bytes : Nat)
    (ho : o.op = .call { callee := .builtin .append, args := #[s, x], argTypes := #[t, t] })
    (ht : P.underlying t = some (.slice e)) (hinfo : (P.info? e).map (fun i => (i.zero, i.size, i.bytes)) = some (some z, 1, bytes)) (hz : z.cells.size = 1) (hb0 : 0 < bytes) (h1 : ∀ x : α, (enc x).oneCell' = true)
    (v : Value) (xs ys : List α) (A : Option Addr) (m c : Nat) (hs : a.eval s = v) (hx : a.eval x = .slice A m c)
    (HO : W.ownsRow base e 1 v xs.length (encs enc xs)) (HR : ReadsOf enc d W A m ys) (HB : Below base w0 W) (hbase : base ≤ W.heap.size) (hl : (xs.length + m) * bytes ≤ 140737488355328)
    (h : ∀ v1 w1, w1.ownsRow base e 1 v1 (xs ++ ys).length (encs enc (xs ++ ys)) → Below base w0 w1 → W.grownBy w1 v.ownBlock → (v1.ownBlock = v.ownBlock ∨ ∃ b, v1.ownBlock = some b ∧ W.heap.size ≤ b) → wpList P ops Q rest (a.put o.dst v1) w1) :
    wpList P ops Q (o :: rest) a W := by
  obtain ⟨i0, hi, hzz⟩ := Option.map_eq_some_iff.1 hinfo
  simp only [Prod.mk.injEq] at hzz
  obtain ⟨hz0, hz1, hz2⟩ := hzz
  have hm : ys.length = m := HR.1
  have hlen : xs.length + m ≤ 140737488355328 := Nat.le_trans (Nat.le_mul_of_pos_right _ hb0) hl
  have hrun : ∃ v1 w1, (Builtin.append_ #[t, t] o.type #[v, .slice A m c]).run P W = .ok v1 w1 ∧ w1.ownsRow base e 1 v1 (xs ++ ys).length (encs enc (xs ++ ys)) ∧ W.grownBy w1 v.ownBlock ∧ (v1.ownBlock = v.ownBlock ∨ v1.ownBlock = some W.heap.size) := by
    rcases A with _ | ad
    · have h0 : m = 0 := by
        rcases Nat.eq_zero_or_pos m with h0 | h0
        · exact h0
        · obtain ⟨ad, h, _⟩ := HR.2.2 h0
          cases h
      subst h0
      obtain rfl : ys = [] := List.eq_nil_of_length_eq_zero hm
      refine ⟨v, W, ?_, by simpa using HO, World.grownBy.refl W _, .inl rfl⟩
      rcases HO.2 with ⟨rfl, hn⟩ | ⟨g, cap, cur, rfl, _, _, hnc, _⟩
      · simp [Builtin.append_, run_underlying ht, sizeOf, typeInfo, hi, Builtin.lenOf, Builtin.firstCells]
      · simp [Builtin.append_, run_underlying ht, sizeOf, typeInfo, hi, Builtin.lenOf, Builtin.firstCells, hnc, storeCells]
    · have hcells : ∀ j u, (encs enc ys)[j]? = some u → W.cell? (ad.add j) = some u := by
        intro j u hu
        have hj : j < ys.length := by
          rcases Nat.lt_or_ge j ys.length with h | h
          · exact h
          · simp [encs, List.getElem?_eq_none h] at hu
        obtain ⟨ad', h', hc⟩ := HR.2.2 (by omega)
        injection h' with h'
        subst h'
        rw [encs_get (d := d) ys j hj] at hu
        rw [← hu]
        exact hc j (by omega)
      obtain ⟨v1, w1, hr, h2, h3, _, h5⟩ := run_append_own_at (P := P) W base t o.type e i0 z 1 bytes ht hi hz0 hz1 hz2 hz (by omega) v xs.length (encs enc xs) HO ad m c (encs enc ys) (by simp [encs, hm]) hcells
        (by intro u hu; simp only [encs, List.mem_map] at hu; obtain ⟨q, _, rfl⟩ := hu; exact h1 q) (by simp only [maxLen]; omega) hl hbase
      exact ⟨v1, w1, hr, by simpa [encs, hm] using h2, h3, h5⟩
  obtain ⟨v1, w1, hr, hown, hg, hat⟩ := hrun
  refine wpList_plain hgd fun K hK => ?_
  unfold Oper.wp execOp
  simp only [ho, resolve, invoke, builtin, Sem.run_bind, Sem.run_pure, Result.andThen_ok, List.map_toArray, List.map_cons, List.map_nil, hs, hx, hr]
  refine hK _ _ (h v1 w1 hown (HB.grown hg hbase (own_base HO)) hg ?_)
  rcases hat with hat | hat
  · exact .inl hat
  · exact .inr ⟨_, hat, Nat.le_refl _⟩
end

section
variable {P : Program}
end
section
variable {α : Type} {R R' : α → List Value → Prop} {e : TypeId} {size : Nat} {w w1 : World} {base : Nat} {v : Value} {ps : List α}
end
section
variable {P : Program} {ops : Array Oper} {rest : List Oper} {o : Oper} {a : Act} {Q : Exit → Act → World → Prop} {α : Type} {R : α → List Value → Prop}
end
section
variable {P : Program} {ops : Array Oper} {o : Oper} {a : Act} {Q : Exit → Act → World → Prop} {K : Act → World → Prop} {α : Type} {R : α → List Value → Prop}
end
section
variable {α : Type} {P : Program}
end

section
variable {P : Program} {ops : Array Oper} {rest : List Oper} {o : Oper} {a : Act} {Q : Exit → Act → World → Prop}
end
namespace Kd
section
variable {α : Type} {d : Kd α} {e : Nat} {w w1 : World} {base : Nat} {ok ok' : Nat → Prop} {v : Value} {xs : List α}
end

section
variable {P : Program} {ops : Array Oper} {rest : List Oper} {o : Oper} {a : Act} {Q : Exit → Act → World → Prop} {α : Type}
end
section
variable {P : Program} {ops : Array Oper} {o : Oper} {a : Act} {Q : Exit → Act → World → Prop} {Kc : Act → World → Prop} {α : Type}
end
end Kd
namespace Kd
section
variable {α : Type} {F : Kd α → Kd α} {sz : Nat} {E : List Nat} {hs : ∀ n, (upto F sz E n).sz = sz} {hE : ∀ n q, q ∈ (upto F sz E n).E → q ∈ E}
end
end Kd
namespace Kd
end Kd
namespace Kd
section
variable {α β : Type} {d : Kd α} {d' : Kd β} {e e' : Nat} {w w1 W : World} {base b b' : Nat} {ok ok' okv oku : Nat → Prop} {v u : Value} {xs : List α} {ys : List β}
end
section
variable {w W : World} {A : Option Addr} {n : Nat}
variable {α : Type} {enc : α → Value} {h1 : ∀ x, (enc x).oneCell' = true} {e base g cap : Nat} {ok : Nat → Prop} {xs : List α}
end

section
variable {P : Program} {ops : Array Oper} {rest : List Oper} {o : Oper} {a : Act} {Q : Exit → Act → World → Prop}
variable {α : Type}
end
end Kd
section
variable {P : Program}
end
section
variable {w w1 : World} {base n size : Nat} {e : TypeId} {v : Value} {xs : List Value}
end
section
variable {P : Program}
end
namespace Kd
section
variable {α : Type} {d : Kd α} {e : Nat} {w w1 W : World} {base : Nat} {ok ok' : Nat → Prop} {v : Value} {xs : List α}
end
section
variable {P : Program} {ops : Array Oper} {rest : List Oper} {o : Oper} {a : Act} {Q' : Exit → Act → World → Prop} {Kc : Act → World → Prop} {α : Type}
end
end Kd
namespace Kd
section
variable {α : Type} {d : Kd α} {e e' : Nat} {w w1 W : World} {base : Nat} {ok : Nat → Prop} {u v : Value} {xs : List α}
end
end Kd
namespace Kd
section
variable {α : Type} {d : Kd α} {e base g n cap : Nat} {ok okp : Nat → Prop} {W : World} {xs : List α}
end
end Kd
namespace Kd
section
variable {α : Type} {F : Kd α → Kd α} {sz : Nat} {E : List Nat} {hs : ∀ n, (upto F sz E n).sz = sz} {hE : ∀ n q, q ∈ (upto F sz E n).E → q ∈ E}
end
end Kd
namespace Kd
section
variable {P : Program} {ops : Array Oper} {rest : List Oper} {o : Oper} {a : Act} {Q : Exit → Act → World → Prop} {α : Type}
end
end Kd
namespace Kd
section
variable {P : Program} {ops : Array Oper} {rest : List Oper} {o : Oper} {a : Act} {Q : Exit → Act → World → Prop} {α : Type}
end
end Kd
namespace Kd
section
variable {α : Type} {k : Kd α} {w : World} {A : Option Addr} {xs : List α} {m c : Nat}
end
end Kd
section
variable {P : Program}
end
namespace Kd
section
variable {α β : Type} {d : Kd α} {d' : Kd β} {e e' base base' n : Nat} {ok ok' : Nat → Prop} {w W w1 W1 : World} {v u : Value} {xs : List α} {ys : List β} {A : Option Addr} {c : Nat}
end
section
variable {α : Type} {enc : α → Value} {h1 : ∀ x, (enc x).oneCell' = true} {w W : World} {A : Option Addr} {n g : Nat} {xs : List α}
end
end Kd
namespace Kd
section
variable {α : Type} {d : Kd α} {e base g : Nat} {ok : Nat → Prop} {w w1 : World} {v : Value} {xs : List α} {o : Obj}
end
end Kd
section
variable {P : Program} {ops : Array Oper} {rest : List Oper} {o : Oper} {a : Act} {Q : Exit → Act → World → Prop}
theorem Kd.R_append_row {α : Type} (enc : α → Value) (d : α) {h1 : ∀ x : α, (enc x).oneCell' = true} {w0 W : World} (base : Nat) (hgd : o.guard = none) (s x : Operand) (t e : TypeId) (z : Value) (bytes : Nat)
    (ho : o.op = .call { callee := .builtin .append, args := #[s, x], argTypes := #[t, t] })
    (ht : P.underlying t = some (.slice e)) (hinfo : (P.info? e).map (fun i => (i.zero, i.size, i.bytes)) = some (some z, 1, bytes)) (hz : z.cells.size = 1) (hb0 : 0 < bytes)
    (v : Value) (xs ys : List α) (A : Option Addr) (m c : Nat) (ok : Nat → Prop) (hs : a.eval s = v) (hx : a.eval x = .slice A m c) (hfresh : ∀ k, W.heap.size ≤ k → ok k)
    (HO : (Kd.scalar enc h1).R e W base ok v xs) (HR : (Kd.scalar enc h1).C W A m ys) (HB : Below base w0 W) (hbase : base ≤ W.heap.size) (hl : (xs.length + m) * bytes ≤ 140737488355328)
    (h : ∀ v1 w1, (Kd.scalar enc h1).R e w1 base ok v1 (xs ++ ys) → Below base w0 w1 → W.grownBy w1 v.ownBlock → (v1.ownBlock = v.ownBlock ∨ ∃ b, v1.ownBlock = some b ∧ W.heap.size ≤ b) → wpList P ops Q rest (a.put o.dst v1) w1) :
    wpList P ops Q (o :: rest) a W := by
  refine print_append_row_of (w0 := w0) enc d base hgd s x t e z bytes ho ht hinfo hz hb0 h1 v xs ys A m c hs hx (Kd.own_of_R HO) (Kd.reads_of_C (d := d) HR) HB hbase hl ?_
  intro v1 w1 hown hb hg hat
  refine h v1 w1 (Kd.R_of_own hown (fun k hk => ?_)) hb hg hat
  rcases hat with e1 | ⟨b, e1, hbb⟩
  · exact HO.1 k (by rw [← e1]; exact hk)
  · rw [e1] at hk
    injection hk with hk
    subst hk
    exact hfresh _ hbb
end
namespace Kd
section
variable {α : Type} {enc : α → Value} {h1 : ∀ x, (enc x).oneCell' = true} {e base g n cap : Nat} {ok : Nat → Prop} {W : World} {xs : List α}
end
end Kd
section
variable {P : Program} {ops : Array Oper} {rest : List Oper} {o : Oper} {a : Act} {Q : Exit → Act → World → Prop}
end
namespace Kd
section
variable {α : Type} {enc : α → Value} {h1 : ∀ x, (enc x).oneCell' = true} {e base g n cap : Nat} {ok : Nat → Prop} {W : World} {xs : List α}
end
end Kd
section
variable {P : Program} {ops : Array Oper} {rest : List Oper} {o : Oper} {a : Act} {Q : Exit → Act → World → Prop} {W : World}
end
section
variable {P : Program} {ops : Array Oper} {o : Oper} {a : Act} {Q : Exit → Act → World → Prop} {Kc : Act → World → Prop}
namespace Kd
variable {α : Type}
end Kd
end
section
variable {P : Program} {tmps : Array Value} {w : World}
end
namespace Kd
section
variable {P : Program} {α : Type}
end
section
variable {P : Program} {ops : Array Oper} {rest : List Oper} {o : Oper} {a : Act} {Q : Exit → Act → World → Prop} {Kc : Act → World → Prop} {α : Type}
end
end Kd

end Go.Proofs.YtnaddmkaakdhoaaW.PrintWords

end
section
namespace Go.Proofs.Ytnaddmkaakdhoaa.J
open Go.RowKit Go.Proofs.YtnaddmkaakdhoaaW.PrintWords Go.Proofs.YtnaddmkaakdhoaaW.PrintLast Go.Proofs.YtnaddmkaakdhoaaW.PrintMore
attribute [local go_sem] max2_int min2_int max_two min_two max_three min_three max_four min_four   -- for this text's walks alone
set_option linter.unusedVariables false
set_option linter.unusedSimpArgs false



theorem info9 : (Try.prog.info? 9).map (fun i => (i.zero, i.size, i.bytes)) = some (some (.string ⟨#[]⟩), 1, 16) := by kernel_rfl
end Go.Proofs.Ytnaddmkaakdhoaa.J

end
section
namespace Go.Proofs.Ytnaddmkaakdhoaa.Dk
open Go Go.Proofs.Ytnaddmkaakdhoaa.J

theorem lt_asymm {a b : List UInt8} (h : a < b) : ¬ b < a := fun k => lt_irrefl a (lt_trans h k)
end Go.Proofs.Ytnaddmkaakdhoaa.Dk

end
section
namespace Go.Proofs.Ytnaddmkaakdhoaa.J
open Go.RowKit Go.Proofs.YtnaddmkaakdhoaaW.PrintWords Go.Proofs.YtnaddmkaakdhoaaW.PrintLast Go.Proofs.YtnaddmkaakdhoaaW.PrintMore
set_option linter.unusedVariables false
set_option linter.unusedSimpArgs false
theorem cs67_app : ∀ a b, cs67 (a ++ b) = cs67 a ++ cs67 b
  | [], b => rfl
  | x :: a, b => by simp [cs67, cs67_app a b]
theorem cs67_one : ∀ (l : List S67), ∀ u ∈ cs67 l, u.oneCell' = true
  | [], u, h => by cases h
  | x :: l, u, h => by
    simp only [cs67, List.mem_cons] at h
    rcases h with rfl | rfl | h
    · rfl
    · rfl
    · exact cs67_one l u h
end Go.Proofs.Ytnaddmkaakdhoaa.J
namespace Go.Proofs.Ytnaddmkaakdhoaa.Dk
open J
end Go.Proofs.Ytnaddmkaakdhoaa.Dk

end
section
namespace Go.Proofs.Ytnaddmkaakdhoaa.Dk
open J
theorem marked_put {l : List S69} {x : S69} {i : Nat} (h : marked l i = true) : marked (put l x) i = true := by
  obtain ⟨y, hy, e⟩ := marked_iff.1 h
  exact marked_iff.2 ⟨y, mem_put.2 (.inr hy), e⟩
end Go.Proofs.Ytnaddmkaakdhoaa.Dk

end
section
namespace Go.Proofs.Ytnaddmkaakdhoaa.Dk
open J
def list (d : Dsk) : List ByteArray := if valid d = true then d.dir.map (·.f0) else []
end Go.Proofs.Ytnaddmkaakdhoaa.Dk
namespace Go.Proofs.Ytnaddmkaakdhoaa.J
open Go.RowKit Go.Proofs.YtnaddmkaakdhoaaW.PrintWords Go.Proofs.YtnaddmkaakdhoaaW.PrintLast Go.Proofs.YtnaddmkaakdhoaaW.PrintMore
open Dk (Srt pos has valid app appAll applyAll Valid ent)
set_option linter.unusedVariables false
set_option linter.unusedSimpArgs false
end Go.Proofs.Ytnaddmkaakdhoaa.J

end
section
namespace Go.Proofs.Ytnaddmkaakdhoaa.J
open Go.RowKit Go.Proofs.YtnaddmkaakdhoaaW.PrintWords Go.Proofs.YtnaddmkaakdhoaaW.PrintLast Go.Proofs.YtnaddmkaakdhoaaW.PrintMore
open Dk (Srt pos has valid app appAll applyAll Valid ent)
set_option linter.unusedVariables false
set_option linter.unusedSimpArgs false
theorem C9_one {w : World} {vb : Nat} {x : ByteArray} (h : w.heap[vb]? = some (.cells #[.string x] 9 (0, 0))) : Kd.C Kd.string w (some ⟨vb, 0, none⟩) 1 [x] :=
  ⟨rfl, by omega, fun _ => ⟨_, rfl, fun j p hj => by
    obtain rfl : j = 0 := by have := (List.getElem?_eq_some_iff.1 hj).1; simp at this; exact this
    obtain rfl : x = p := by simpa using hj
    refine ⟨_, rfl, rfl, fun i u hu => ?_⟩
    rw [Addr.add_lit, blk_cell h]
    match i, hu with
    | 0, hu => simpa using hu
    | k + 1, hu => simp at hu⟩⟩
set_option maxHeartbeats 8000000 in
set_option maxRecDepth 100000 in
theorem list39_calls (a : Value) (d : Dsk) (w : World) (hd : DC w a d) (hs : Sml 100000 d) :
    Calls Try.prog 39 #[a] w fun e w' => ∃ v, e = .returned v ∧ Kd.R Kd.string 9 w' w.heap.size (fun _ => True) v (Dk.list d) ∧ Below w.heap.size w w' := by
  have DD := Aside0.mk hd
  obtain ⟨A0, c0, A1, c1, A2, c2, A3, c3, rfl, ⟨r0, l0⟩, ⟨r1, l1⟩, ⟨r2, l2⟩, ⟨r3, l3⟩⟩ := hd
  have R1 := Aside0.mk r1
  obtain ⟨res, hres⟩ : ∃ res, res = Dk.list d := ⟨_, rfl⟩
  rw [← hres]
  have RES := Aside0.mk hres
  obtain ⟨b, hb⟩ : ∃ b, b = valid d := ⟨_, rfl⟩
  have VC := Aside0.mk (fun w' hd' => validate_calls (.agg #[.slice A0 d.ino.length c0, .slice A1 d.dir.length c1, .slice A2 d.dur.length c2, .slice A3 d.ops.length c3]) d w' hd' hs)
  rw [← hb] at VC
  have VB := Aside0.mk hb
  obtain ⟨n, hn⟩ : ∃ n, n = d.dir.length := ⟨_, rfl⟩
  have HN := Aside0.mk hn
  have hn1 : n ≤ 100000 := by have := hs.2.1; omega
  clear hres hb r0 r1 r2 r3 hs
  go_enter Try.func39, Try.ntmps39
  go_wp2_with fail
  have hB := (Below.refl w.heap.size w).alloc (Nat.le_refl _) (.cells #[.slice A0 d.ino.length c0, .slice A1 d.dir.length c1, .slice A2 d.dur.length c2, .slice A3 d.ops.length c3] 47)
  have hK := blk_new w (.cells #[.slice A0 d.ino.length c0, .slice A1 d.dir.length c1, .slice A2 d.dur.length c2, .slice A3 d.ops.length c3] 47)
  generalize w.alloc (.cells #[.slice A0 d.ino.length c0, .slice A1 d.dir.length c1, .slice A2 d.dur.length c2, .slice A3 d.ops.length c3] 47) = W0 at hB hK ⊢
  refine (VC.out W0 (DD.out.below hB)).mono ?_
  rintro e w1 ⟨rfl, hb1⟩
  have HB := Aside0.mk (below_step hB hb1)
  have HK := Aside0.mk (blk_below hK hb1)
  clear hB hK hb1 VC
  obtain ⟨D, hD⟩ : ∃ D, D = w.heap.size := ⟨_, rfl⟩
  rw [← hD] at HK ⊢
  clear hD
  cases b with
  | false =>
    have E := Aside0.mk (show res = [] from by rw [RES.out]; unfold Dk.list; rw [← VB.out]; rfl)
    go_wp2
    go_ret
    rw [E.out]
    exact ⟨_, rfl, Kd.R_nil _ _ _ _ _, HB.out⟩
  | true =>
    have E := Aside0.mk (show res = d.dir.map (·.f0) from by rw [RES.out]; unfold Dk.list; rw [← VB.out]; rfl)
    have d1 : w1.cell? ⟨D, 1, none⟩ = some (.slice A1 d.dir.length c1) := (blk_cell HK.out 1).trans rfl
    rw [← hn] at d1
    clear hn
    go_wp2_with fail
    go_loopg [12, 3] n (fun kx s12 s3 wr => ∃ (i : Nat) (v : Value), s12 = .int .i64 i ∧ v = s3 ∧ i ≤ n ∧ n - i ≤ kx ∧ Aside0 (Below w.heap.size w wr) ∧ Aside0 (Kd.R Kd.string 9 wr w.heap.size (fun _ => True) v ((d.dir.take i).map (·.f0))))
    case atStart => exact ⟨0, _, rfl, rfl, Nat.zero_le _, by omega, HB, ⟨Kd.R_nil _ _ _ _ _⟩⟩
    case round =>
      clear HB HK d1
      obtain ⟨i, vk, rfl, rfl, hi, hk, HB, HO⟩ := hrel
      by_cases hlt : i < n
      · obtain ⟨ad, ea, hx0, hx1⟩ := at_T69 R1.out (i : Int) (by omega) (by have := HN.out; omega)
        cases ea
        obtain ⟨y, hy⟩ : ∃ y, y = rd_T69 d.dir (i : Int) := ⟨_, rfl⟩
        rw [← hy] at hx0 hx1
        replace hx0 : wr.cell? (ad.add (i * 2)) = some (.string y.f0) := (HB.out.cell (World.block_lt_of_cell? w _ hx0)).trans hx0
        replace hx1 : wr.cell? ⟨(ad.add (i * 2)).block, (ad.add (i * 2)).off + 1, none⟩ = some (.int .i64 y.f1) := (HB.out.cell (World.block_lt_of_cell? w _ hx1)).trans hx1
        have hil : i < d.dir.length := by have := HN.out; omega
        have hyi : d.dir[i] = y := by
          rw [hy]
          show _ = d.dir.getD i z69
          rw [Dk.getD_eq hil]
        have HT := Aside0.mk (show (d.dir.take (i + 1)).map (·.f0) = (d.dir.take i).map (·.f0) ++ [y.f0] from by rw [List.take_succ_eq_append_getElem hil, hyi, List.map_append]; rfl)
        have hlm : ((d.dir.take i).map (·.f0)).length ≤ 100000 := by rw [List.length_map, List.length_take]; omega
        obtain ⟨Ak, ck, rfl⟩ := Kd.R_slice HO.out
        obtain ⟨L, hL⟩ : ∃ L, L = (d.dir.take i).map (·.f0) := ⟨_, rfl⟩
        rw [← hL] at HO HT hlm ⊢
        clear hy hyi hL
        have y0 := (blk_cell (blk_new wr (.cells #[.string y.f0, .int .i64 y.f1] 69)) 0).trans rfl
        have b1 := ((Below.refl wr.heap.size wr).alloc (Nat.le_refl _) (.cells #[.string y.f0, .int .i64 y.f1] 69))
        have b2 := b1.alloc b1.size (.cells #[.string y.f0] 9)
        have QX := Aside0.mk (C9_one (blk_new (wr.alloc (.cells #[.string y.f0, .int .i64 y.f1] 69)) (.cells #[.string y.f0] 9)))
        rw [show (wr.alloc (.cells #[.string y.f0, .int .i64 y.f1] 69)).heap.size = wr.heap.size + 1 by simp] at QX
        have QB := Aside0.mk (below_step HB.out b2)
        have QO := Aside0.mk (Kd.R_below HO.out b2)
        have QS := Aside0.mk (Nat.le_trans HB.out.size b2.size)
        clear b1 b2
        go_wp2_with (at_builtin; go_loud (refine Kd.R_append_row Value.string ⟨#[]⟩ (w0 := w) w.heap.size rfl _ _ 56 9 (.string ⟨#[]⟩) 16 rfl Try.underlying56 info9 rfl (by decide) (.slice Ak L.length ck) L [y.f0] (some ⟨wr.heap.size + 1, 0, none⟩) 1 1 (fun _ => True) rfl rfl ?q4 QO.out QX.out QB.out QS.out ?q7 ?_); (case q4 => intro k hk; trivial); (case q7 => omega); intro v1 w1 h1 h2 h3 h4; have H1 := Aside0.mk h1; have H2 := Aside0.mk h2; clear h1 h2 h3 h4)
        go_roundg (n - i - 1)
        case measure => omega
        case rel => exact ⟨i + 1, v1, by first | rfl | (simp; done), rfl, hlt, by omega, H2, ⟨by rw [HT.out]; exact H1.out⟩⟩
      · have E2 := Aside0.mk (show res = (d.dir.take i).map (·.f0) from by rw [E.out, List.take_of_length_le (by have := HN.out; omega)])
        go_wp2
        go_ret
        rw [E2.out]
        exact ⟨_, rfl, HO.out, HB.out⟩
end Go.Proofs.Ytnaddmkaakdhoaa.J

end
section
namespace Go.Proofs.Ytnaddmkaakdhoaa.Dk
open J Go.Proofs.YtnaddmkaakdhoaaW.PrintWords
theorem chs_ref (x : Int) {n : Nat} (hn : 0 < n) : (if Int.tmod x n < 0 then Int.tmod x n + n else Int.tmod x n) = ((x % (n : Int)).toNat : Int) := by
  have h1 := Int.emod_nonneg x (show (n : Int) ≠ 0 by omega)
  have h := chs_tmod x hn
  have hb : -(n : Int) < Int.tmod x n ∧ Int.tmod x n < n := by
    have a := Int.tmod_lt_of_pos x (show (0 : Int) < n by omega)
    have b := Int.lt_tmod_of_pos x (show (0 : Int) < n by omega)
    exact ⟨b, a⟩
  rw [← h]
  split
  · exact (Int.tmod_eq_of_lt (by omega) (by omega)).symm
  · rw [Int.tmod_eq_emod_of_nonneg (show 0 ≤ x.tmod n + n by omega), Int.add_emod_right, Int.emod_eq_of_lt (by omega) (by omega)]
end Go.Proofs.Ytnaddmkaakdhoaa.Dk
namespace Go.Proofs.Ytnaddmkaakdhoaa.J
open Go.RowKit Go.Proofs.YtnaddmkaakdhoaaW.PrintWords Go.Proofs.YtnaddmkaakdhoaaW.PrintLast Go.Proofs.YtnaddmkaakdhoaaW.PrintMore
open Dk (chs)
set_option linter.unusedVariables false
set_option linter.unusedSimpArgs false
end Go.Proofs.Ytnaddmkaakdhoaa.J

end
section
namespace Go.Proofs.Ytnaddmkaakdhoaa.J
open Go.RowKit Go.Proofs.YtnaddmkaakdhoaaW.PrintWords Go.Proofs.YtnaddmkaakdhoaaW.PrintLast Go.Proofs.YtnaddmkaakdhoaaW.PrintMore
set_option linter.unusedVariables false
set_option linter.unusedSimpArgs false
theorem mod_f (x n : Int) (h0 : 1 ≤ n) (h1 : n ≤ 1000000) : ∃ v, corporamade_Mod.f x n = some v ∧ 0 ≤ v ∧ v < n := by
  unfold corporamade_Mod.f
  rw [if_neg (by omega), if_neg (by omega)]
  have a := Int.tmod_lt_of_pos x (show 0 < n by omega)
  have b := Int.lt_tmod_of_pos x (show 0 < n by omega)
  by_cases c : Int.tmod x n < 0
  · rw [if_pos c]
    refine ⟨_, rfl, ?_⟩
    unfold wrap64
    omega
  · rw [if_neg c]
    exact ⟨_, rfl, by omega, a⟩
theorem tnext_f (l : List Int) (at_ n : Int) (hl : l.length ≤ 1000000) (h0 : 0 ≤ at_) (hn0 : 1 ≤ n) (hn1 : n ≤ 1000000) : ∃ v a', corporamade_Tape_Next.f l at_ n = some (v, a') ∧ 0 ≤ v ∧ v < n ∧ 0 ≤ a' := by
  unfold corporamade_Tape_Next.f
  by_cases c : at_ ≥ (l.length : Int)
  · rw [if_pos c]
    exact ⟨0, at_, rfl, by omega, by omega, h0⟩
  · rw [if_neg c]
    have e : wrap64 (wrap64 (at_ + 1) - 1) = at_ := by unfold wrap64; omega
    rw [e, if_pos h0, if_pos (by omega)]
    obtain ⟨v, hv, a, b⟩ := mod_f (rd l at_) n hn0 hn1
    rw [hv]
    simp only [Option.bind_some]
    exact ⟨v, _, rfl, a, b, by unfold wrap64; omega⟩

def Small (r : S37) : Prop := (r.f0 = 1 ∨ r.f0 = 2) ∧ r.f1.size ≤ 7
theorem new_f (l : List Int) : ∃ m, corporamade_New.f l = some (m, 0) ∧ m.length ≤ 120 := by
  unfold corporamade_New.f
  by_cases c : (l.length : Int) > 120
  · rw [if_pos c, if_pos (by omega)]
    exact ⟨_, rfl, by rw [List.length_take]; omega⟩
  · rw [if_neg c]
    exact ⟨l, rfl, by omega⟩
end Go.Proofs.Ytnaddmkaakdhoaa.J

end
section
namespace Go.Proofs.Ytnaddmkaakdhoaa.J
open Go.RowKit Go.Proofs.YtnaddmkaakdhoaaW.PrintWords Go.Proofs.YtnaddmkaakdhoaaW.PrintLast Go.Proofs.YtnaddmkaakdhoaaW.PrintMore
attribute [local go_sem] max2_int min2_int max_two min_two max_three min_three max_four min_four   -- for this text's walks alone
set_option linter.unusedVariables false
set_option linter.unusedSimpArgs false

def corporalaw39_name.f (a0 : Int) : Option (ByteArray) := (some (([(⟨#[97]⟩ : ByteArray), (⟨#[98]⟩ : ByteArray), (⟨#[99]⟩ : ByteArray), (⟨#[100, 46, 49]⟩ : ByteArray)] : List ByteArray) : List ByteArray)).bind fun y101 => ((corporamade_Mod.f a0 4).bind fun t104 => (if 0 ≤ t104 then (if t104 < (y101.length : Int) then (some (rdOf ByteArray.empty y101 t104)) else (none)) else (none)))
set_option maxHeartbeats 8000000 in
set_option maxRecDepth 100000 in
theorem corporalaw39_name.calls (a0 : Int) (r : ByteArray) (w : World) (h : corporalaw39_name.f a0 = some r) :
    Calls Try.prog 46 #[.int .i64 a0] w fun e w' => e = .returned (.string r) ∧ Below w.heap.size w w' := by
  have HB := Aside0.mk (Below.refl w.heap.size w)
  have H : ((some (([(⟨#[97]⟩ : ByteArray), (⟨#[98]⟩ : ByteArray), (⟨#[99]⟩ : ByteArray), (⟨#[100, 46, 49]⟩ : ByteArray)] : List ByteArray) : List ByteArray)).bind fun y101 => ((corporamade_Mod.f a0 4).bind fun t104 => (if 0 ≤ t104 then (if t104 < (y101.length : Int) then (some (rdOf ByteArray.empty y101 t104)) else (none)) else (none)))) = some r := h
  clear h
  obtain ⟨y101, hy101⟩ : ∃ y_ : List ByteArray, y_ = (([(⟨#[97]⟩ : ByteArray), (⟨#[98]⟩ : ByteArray), (⟨#[99]⟩ : ByteArray), (⟨#[100, 46, 49]⟩ : ByteArray)] : List ByteArray)) := ⟨_, rfl⟩
  replace H : ((corporamade_Mod.f a0 4).bind fun t104 => (if 0 ≤ t104 then (if t104 < (y101.length : Int) then (some (rdOf ByteArray.empty y101 t104)) else (none)) else (none))) = some r := by first | (rw [hy101]; with_reducible exact H) | (have H2_ := (Option.bind_some _ _).symm.trans H; rw [hy101]; with_reducible exact H2_) | (have H2_ := (Option.bind_some _ _).symm.trans H; with_reducible exact H2_) | with_reducible exact H | (rw [hy101]; exact H) | exact H
  have Ny101 := Aside0.mk hy101
  clear hy101
  replace H := Option.bind_eq_some_iff.mp H
  obtain ⟨t104, A20, H⟩ := H
  replace H : (if 0 ≤ t104 then (if t104 < (y101.length : Int) then (some (rdOf ByteArray.empty y101 t104)) else (none)) else (none)) = some r := H
  have A2 := Aside0.mk A20
  clear A20
  by_cases c3 : 0 ≤ t104
  · rw [if_pos c3] at H
    have c3b0 : decide (0 ≤ t104) = true := decide_eq_true c3
    clear c3
    by_cases c4 : t104 < (y101.length : Int)
    · rw [if_pos c4] at H
      have c4b0 : decide (t104 < (y101.length : Int)) = true := decide_eq_true c4
      clear c4
      obtain rfl := Option.some.inj H
      go_enter Try.func46, Try.ntmps46
      go_wp2_with (first | ((with_reducible refine gate_dst (N := 3) rfl ?_); refine Kd.R_lit Kd.string _ 9 ?hg (N := 3) ?hd (xs := ([(⟨#[97]⟩ : ByteArray), (⟨#[98]⟩ : ByteArray), (⟨#[99]⟩ : ByteArray), (⟨#[100, 46, 49]⟩ : ByteArray)] : List ByteArray)) (inner := [.string (⟨#[97]⟩ : ByteArray), .string (⟨#[98]⟩ : ByteArray), .string (⟨#[99]⟩ : ByteArray), .string (⟨#[100, 46, 49]⟩ : ByteArray)]) (ok := fun _ => True) (okp := fun _ => True) ?hr ?hp (fun _ hk => hk) trivial (Below.refl _ _) (Nat.le_refl _) (by simp) ?_; (case hd => rfl); (case hg => rfl); (case hr => first | (go_simp; done) | (go_simp; rfl)); (case hp => exact (Reps.one (show Kd.M Kd.string _ _ _ (⟨#[97]⟩ : ByteArray) [.string (⟨#[97]⟩ : ByteArray)] from rfl) (Reps.one (show Kd.M Kd.string _ _ _ (⟨#[98]⟩ : ByteArray) [.string (⟨#[98]⟩ : ByteArray)] from rfl) (Reps.one (show Kd.M Kd.string _ _ _ (⟨#[99]⟩ : ByteArray) [.string (⟨#[99]⟩ : ByteArray)] from rfl) (Reps.one (show Kd.M Kd.string _ _ _ (⟨#[100, 46, 49]⟩ : ByteArray) [.string (⟨#[100, 46, 49]⟩ : ByteArray)] from rfl) (Reps.none _ _)))))); intro v102 w5 ho6 hb hg_ hnew_; clear hg_ hnew_; (first | rw [← Ny101.out] at ho6 | (simp only [Int.reduceToNat] at ho6; rw [← Ny101.out] at ho6)); have n0_ := Aside0.mk (Kd.R_lower ho6 (below_size (by repeat (first | (with_reducible first | exact HB.out | apply below_alloc | apply pw_below_drewN | apply below_drew1) | exact HB.out)))); have n1_ := Aside0.mk (below_step (by repeat (first | (with_reducible first | exact HB.out | apply below_alloc | apply pw_below_drewN | apply below_drew1) | exact HB.out)) hb); clear HB; have HO103 := n0_; have HB := n1_; clear n0_ n1_; clear hb ho6) | ((with_reducible refine gate_callee (f := 27) rfl ?_); refine goesL_ (some 5) rfl rfl Try.func27 (by kernel_rfl) rfl #[.int .i64 a0, .int .i64 4] rfl (by (try simp only [List.map_toArray, List.map_cons, List.map_nil]); first | done | rfl | (simp only [List.length_drop, List.length_take]; rfl)) ?_; (with_reducible refine (corporamade_Mod.calls a0 4 t104 _ A2.out).mono ?_); rintro e w' ⟨rfl, ⟨nd, rfl⟩⟩; refine ⟨_, rfl, ?_⟩; obtain ⟨Ao7, co7, eo7⟩ := Kd.R_slice HO103.out; subst eo7; have p105 : 0 ≤ (t104 : Int) := of_decide_eq_true (by first | (with_reducible assumption) | assumption); have q105 : t104 < (y101.length : Int) := of_decide_eq_true (by first | (with_reducible assumption) | assumption); obtain ⟨ad105, e105, hx105_0⟩ := Kd.at_string (Kd.R_reads' HO103.out).2.2 t104 p105 q105; cases e105; replace p105 := eq_true p105; replace q105 := eq_true q105))
      go_ret
      exact ⟨by first | rfl | (simp [errW_none, errW_some] <;> rfl) | (simp [*, errW_none, errW_some] <;> rfl), by repeat (first | (with_reducible first | exact HB.out | apply below_alloc | apply pw_below_drewN | apply below_drew1) | exact HB.out)⟩
    · rw [if_neg c4] at H
      exact absurd H (by simp)
  · rw [if_neg c3] at H
    exact absurd H (by simp)

end Go.Proofs.Ytnaddmkaakdhoaa.J

end
