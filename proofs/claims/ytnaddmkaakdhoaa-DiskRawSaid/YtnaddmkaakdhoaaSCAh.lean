/-
  Texts of this claim, joined, without what the claim does not use: XDd XDk JE69 XDq XDw
-/
import Derived.Deep.DeepBigQuietO
import Derived.WalkLawsBesides
import Derived.Test.YtnaddmkaakdhoaaSCAg
section
namespace Go.Proofs.Ytnaddmkaakdhoaa.Dk
open J
def DirOK (l : List S69) (n : Nat) : Prop := (∀ x ∈ l, vname x.f0 = true ∧ 0 ≤ x.f1 ∧ x.f1 < n) ∧ Srt l ∧ (l.map (·.f1)).Nodup
instance (l : List S69) (n : Nat) : Decidable (DirOK l n) := by unfold DirOK Srt; infer_instance
def marked (l : List S69) (j : Nat) : Bool := l.any (fun x => decide (x.f1 = (j : Int)))
theorem marked_snoc (p : List S69) (y : S69) (j : Nat) : marked (p ++ [y]) j = (marked p j || decide (y.f1 = (j : Int))) := by simp [marked]
theorem DirOK_snoc {p : List S69} {y : S69} {n : Nat} : DirOK (p ++ [y]) n ↔ DirOK p n ∧ vname y.f0 = true ∧ (∀ x, p.getLast? = some x → nk x.f0 < nk y.f0) ∧ 0 ≤ y.f1 ∧ y.f1 < n ∧ marked p y.f1.toNat = false := by
  unfold DirOK Srt
  rw [List.pairwise_append, List.map_append, List.nodup_append]
  constructor
  · rintro ⟨h1, ⟨h2, _, h3⟩, h4, _, h5⟩
    have hy := h1 y (by simp)
    refine ⟨⟨fun x hx => h1 x (by simp [hx]), h2, h4⟩, hy.1, fun x hx => h3 x (List.mem_of_getLast? hx) y (by simp), hy.2.1, hy.2.2, ?_⟩
    rw [Bool.eq_false_iff]
    intro k
    simp only [marked, List.any_eq_true, decide_eq_true_eq] at k
    obtain ⟨x, hx, e⟩ := k
    exact h5 x.f1 (List.mem_map_of_mem hx) y.f1 (by simp) (by rw [e]; exact Int.toNat_of_nonneg hy.2.1)
  · rintro ⟨⟨h1, h2, h3⟩, h4, h5, h6, h7, h8⟩
    refine ⟨fun x hx => ?_, ⟨h2, by simp, fun x hx z hz => ?_⟩, h3, by simp, fun a ha b hb e => ?_⟩
    · rcases List.mem_append.1 hx with hx | hx
      · exact h1 x hx
      · obtain rfl := List.mem_singleton.1 hx
        exact ⟨h4, h6, h7⟩
    · obtain rfl := List.mem_singleton.1 hz
      rcases List.eq_nil_or_concat p with rfl | ⟨q, t, rfl⟩
      · cases hx
      · have ht := h5 t (by simp)
        rcases List.mem_append.1 (by simpa using hx : x ∈ q ++ [t]) with hx | hx
        · have hp := (List.pairwise_append.1 (by simpa using h2 : List.Pairwise (fun a b => nk a.f0 < nk b.f0) (q ++ [t]))).2.2 x hx t (by simp)
          exact lt_trans hp ht
        · obtain rfl := List.mem_singleton.1 hx
          exact ht
    · obtain ⟨x, hx, rfl⟩ := List.mem_map.1 ha
      simp only [List.map_cons, List.map_nil, List.mem_singleton] at hb
      subst hb
      rw [Bool.eq_false_iff] at h8
      refine h8 ?_
      simp only [marked, List.any_eq_true, decide_eq_true_eq]
      exact ⟨x, hx, by rw [e]; exact (Int.toNat_of_nonneg h6).symm⟩
theorem DirOK_pre {a b : List S69} {n : Nat} (h : DirOK (a ++ b) n) : DirOK a n := by
  obtain ⟨h1, h2, h3⟩ := h
  refine ⟨fun x hx => h1 x (by simp [hx]), (List.pairwise_append.1 h2).1, ?_⟩
  rw [List.map_append, List.nodup_append] at h3
  exact h3.1
end Go.Proofs.Ytnaddmkaakdhoaa.Dk
namespace Go.Proofs.Ytnaddmkaakdhoaa.J
open Go.RowKit Go.Proofs.YtnaddmkaakdhoaaW.PrintWords Go.Proofs.YtnaddmkaakdhoaaW.PrintLast Go.Proofs.YtnaddmkaakdhoaaW.PrintMore
open Dk (Srt DirOK marked vname)
set_option linter.unusedVariables false
set_option linter.unusedSimpArgs false
theorem grownBy_drewD {w w1 : World} {r : Option Nat} (h : w.grownBy w1 r) : w.grownBy w1.drew r := ⟨h.os, h.tape, h.output, h.size, h.block⟩
theorem grown_set {w W : World} {r : Option Nat} (h : w.grownBy W r) {p : Addr} (u : Value) (hp : w.heap.size ≤ p.block ∨ some p.block = r) : w.grownBy (W.setCell p u) r :=
  ⟨h.os, h.tape, h.output, Nat.le_trans h.size (by simp [World.setCell]), fun k hk hr => (Below.heap_setCell W p u k (fun e => by subst e; rcases hp with h1 | h1; omega; exact hr h1)).trans (h.block k hk hr)⟩
theorem bl_eq (a b : ByteArray) : Op.bytesLess a.toList b.toList = decide (Dk.nk a < Dk.nk b) := by rw [Go.Proofs.bytesLess_eq, Lib.toList_data, Lib.toList_data]; rfl
def bcells (n : Nat) (f : Nat → Bool) : Array Value := Array.ofFn (n := n) fun j => .bool (f j)
def Bools (w : World) (g : Nat) (n : Nat) (f : Nat → Bool) : Prop := w.heap[g]? = some (.cells (bcells n f) 4 (0, 0))
theorem bcells_at (n : Nat) (f : Nat → Bool) (j : Nat) (h : j < n) : (bcells n f)[j]? = some (.bool (f j)) := by
  unfold bcells
  rw [Array.getElem?_ofFn]
  simp [h]
theorem Bools.cell {w : World} {g n : Nat} {f : Nat → Bool} (h : Bools w g n f) {j : Nat} (hj : j < n) : w.cell? ⟨g, j, none⟩ = some (.bool (f j)) := (blk_cell h j).trans (bcells_at n f j hj)
theorem grownBy_drewN {w w1 : World} {r : Option Nat} (h : w.grownBy w1 r) (n : Nat) : w.grownBy (w1.drewN n) r := ⟨h.os, h.tape, h.output, h.size, h.block⟩
theorem Bools.ne {w : World} {g n : Nat} {f : Nat → Bool} (h : Bools w g n f) {p : Addr} {v : Value} (hp : w.cell? p = some v) (hv : ∀ b, v ≠ .bool b) : p.block ≠ g := by
  intro e
  subst e
  unfold World.cell? at hp
  rw [h] at hp
  have h2 : (bcells n f)[p.off]? = some v := by simp at hp; exact hp.2
  unfold bcells at h2
  rw [Array.getElem?_ofFn] at h2
  split at h2
  · injection h2 with h2
    exact hv _ h2.symm
  · cases h2
theorem bcells_set (n : Nat) (f : Nat → Bool) (j : Nat) (hj : j < n) : (bcells n f).setIfInBounds j (.bool true) = bcells n (fun k => f k || decide (k = j)) := by
  apply Array.ext
  · simp [bcells]
  · intro i h1 h2
    have hi : i < n := by simpa [bcells] using h2
    apply Option.some.inj
    rw [← Array.getElem?_eq_getElem, ← Array.getElem?_eq_getElem, Array.getElem?_setIfInBounds, bcells_at _ _ i hi, bcells_at _ _ i hi]
    by_cases e : j = i
    · subst e; simp [bcells, hj]
    · simp [e, Ne.symm e]
theorem Bools.set {w : World} {g n : Nat} {f : Nat → Bool} (h : Bools w g n f) {j : Nat} (hj : j < n) : Bools (w.setCell ⟨g, j, none⟩ (.bool true)) g n (fun k => f k || decide (k = j)) := blk_put h j _ (bcells_set n f j hj)
theorem made_bools (n : Nat) : madeCells #[Value.bool false] n = bcells n (fun _ => false) := by
  apply Array.ext
  · simp [madeCells, bcells]
  · intro i h1 h2
    simp [madeCells, bcells, Nat.mod_one]
theorem make_bools (n : Nat) (hn : n ≤ 1000000) (W : World) : (Instr.makeSlice 91 (.int .i64 (n : Nat)) (.int .i64 (n : Nat))).run Try.prog W = .ok (.slice (some ⟨W.heap.size, 0, none⟩) n n) (W.alloc (.cells (bcells n (fun _ => false)) 4)) := by
  rw [← made_bools]
  exact print_make_of (P := Try.prog) 91 4 (.bool false) 1 Try.underlying91 info4 rfl (by omega) n (by omega) W
set_option maxHeartbeats 8000000 in
set_option maxRecDepth 100000 in
theorem directory_calls (A : Option Addr) (c : Nat) (l : List S69) (g n : Nat) (f : Nat → Bool) (w : World) (hr : Kd.C k69 w A l.length l) (hc : l.length ≤ c) (hn : n ≤ 1000000) (hf : Bools w g n f) :
    Calls Try.prog 61 #[.slice A l.length c, .slice (some ⟨g, 0, none⟩) n n] w fun e w' => ∃ f', e = .returned (.bool (decide (DirOK l n))) ∧ Bools w' g n f' ∧ w.grownBy w' (some g) ∧ (DirOK l n → ∀ j, f' j = (f j || marked l j)) := by
  have HR := Aside0.mk hr
  have hlen : l.length ≤ 9223372036854775807 := hr.2.1
  have HF := Aside0.mk hf
  obtain ⟨ln, hln⟩ : ∃ ln, ln = l.length := ⟨_, rfl⟩
  have HL := Aside0.mk hln
  rw [← hln] at hlen hc ⊢
  have hmk := make_bools n hn
  obtain ⟨r, hrr⟩ : ∃ r, r = decide (DirOK l n) := ⟨_, rfl⟩
  rw [← hrr]
  have RR := Aside0.mk hrr
  clear hrr
  clear hr hf hln
  go_enter Try.func61, Try.ntmps61
  go_wp2_with fail
  have hgw : g < w.heap.size := blk_lt HF.out
  have B0 := Aside0.mk (show Bools (w.alloc (.cells (bcells n (fun _ => false)) 4)) w.heap.size n (fun _ => false) from blk_new w _)
  have F0 := Aside0.mk (show Bools (w.alloc (.cells (bcells n (fun _ => false)) 4)) g n f from blk_alloc HF.out _)
  have G0 := Aside0.mk (show w.grownBy (w.alloc (.cells (bcells n (fun _ => false)) 4)) (some g) from World.grownBy_alloc w _ _)
  obtain ⟨N, hN⟩ : ∃ N, N = w.heap.size := ⟨_, rfl⟩
  rw [← hN] at B0
  have hgN : g ≠ N := by omega
  have NN := Aside0.mk hN
  rw [← hN]
  clear hN
  have hfo : Try.prog.follows Departure.mixedOrders = true := by kernel_rfl
  go_loopg [13] ln (fun kx s13 wr => ∃ i : Nat, s13 = .int .i64 i ∧ i ≤ ln ∧ ln - i ≤ kx ∧ Aside0 (DirOK (l.take i) n) ∧ Aside0 (Bools wr N n (marked (l.take i))) ∧ Aside0 (Bools wr g n (fun j => f j || marked (l.take i) j)) ∧ Aside0 (w.grownBy wr (some g)))
  case atStart => exact ⟨0, rfl, Nat.zero_le _, by omega, ⟨⟨fun x hx => by simp at hx, List.Pairwise.nil, List.nodup_nil⟩⟩, B0, ⟨by have := F0.out; simpa [marked] using this⟩, G0⟩
  case round =>
    clear B0 F0 G0
    obtain ⟨i, rfl, hi, hk, hD, hB, hF, hG⟩ := hrel
    by_cases hlt : i < ln
    · obtain ⟨ad, ea, hx0, hx1⟩ := at_T69 HR.out (i : Int) (by omega) (by have := HL.out; omega)
      subst ea
      obtain ⟨y, hy⟩ : ∃ y, y = rd_T69 l (i : Int) := ⟨_, rfl⟩
      rw [← hy] at hx0 hx1
      have hil : i < l.length := by have := HL.out; omega
      have hyi : l[i] = y := by
        rw [hy]
        show _ = l.getD i z69
        rw [Dk.getD_eq hil]
      have hsp : l = (l.take i ++ [y]) ++ l.drop (i + 1) := by
        rw [← hyi, List.append_assoc, List.singleton_append, ← List.drop_eq_getElem_cons hil, List.take_append_drop]
      have htk : l.take (i + 1) = l.take i ++ [y] := by rw [List.take_succ_eq_append_getElem hil, hyi]
      have HS := Aside0.mk hsp
      have HT := Aside0.mk htk
      have hlast : ∀ i' x, i = i' + 1 → l.getD i' z69 = x → (l.take i).getLast? = some x := fun i' x h1 h2 => by
        subst h1
        rw [List.take_succ_eq_append_getElem (by omega), List.getLast?_concat, ← h2, Dk.getD_eq (by omega)]
      have HLa := Aside0.mk hlast
      have hcl : ∀ p v, w.cell? p = some v → p.block ≠ g → wr.cell? p = some v := fun p v h hne => (World.cell?_of_block (w := w) (hG.out.block p.block (World.block_lt_of_cell? w _ h) (fun e => hne (Option.some.inj e)))).trans h
      clear hy hsp htk hlast hyi
      have n0 := HF.out.ne hx0 (by intro b; simp)
      have n1 := HF.out.ne hx1 (by intro b; simp)
      replace hx0 : wr.cell? (ad.add (i * 2)) = some (.string y.f0) := hcl _ _ hx0 n0
      replace hx1 : wr.cell? ⟨(ad.add (i * 2)).block, (ad.add (i * 2)).off + 1, none⟩ = some (.int .i64 y.f1) := hcl _ _ hx1 n1
      have HCL := Aside0.mk hcl
      have bN := (Below.refl wr.heap.size wr).alloc (Nat.le_refl _) (.cells #[.string y.f0, .int .i64 y.f1] 69)
      have kN := Aside0.mk (blk_new wr (.cells #[.string y.f0, .int .i64 y.f1] 69))
      have BN := Aside0.mk bN
      clear hcl n0 n1 bN
      have z0 : (wr.alloc (.cells #[.string y.f0, .int .i64 y.f1] 69)).cell? ⟨wr.heap.size, 0, none⟩ = some (.string y.f0) := (blk_cell kN.out 0).trans rfl
      have z1 : (wr.alloc (.cells #[.string y.f0, .int .i64 y.f1] 69)).cell? ⟨wr.heap.size, 1, none⟩ = some (.int .i64 y.f1) := (blk_cell kN.out 1).trans rfl
      obtain ⟨bb, hbb⟩ : ∃ bb, bb = decide (¬ DirOK (l.take (i + 1)) n) := ⟨_, rfl⟩
      have HBB := Aside0.mk hbb
      clear hbb
      have V := Aside0.mk (fun w' => vname88_quiet y.f0 w')
      go_upto_region 5 with fail
      go_cut [55] (fun c wx => c = .bool bb ∧ ∃ nq, wx = (wr.alloc (.cells #[.string y.f0, .int .i64 y.f1] 69)).drewN nq)
      case first =>
        obtain ⟨vb, hvb⟩ : ∃ vb, vb = vname y.f0 := ⟨_, rfl⟩
        rw [← hvb] at V
        have HV := Aside0.mk hvb
        clear hvb
        cases vb with
        | false =>
          go_big_quiet_o ((go_at_call 88; exact Calls.quiet_of ((V.out _).mono (fun e w' h => ⟨h.1, h.2.out⟩))))
          go_wp2
          go_meet
          exact ⟨congrArg Value.bool (HBB.out.trans (decide_eq_true (fun h => by rw [HT.out] at h; have h2 := (Dk.DirOK_snoc.1 h).2; rw [← HV.out] at h2; cases h2.1))).symm, _, by first | rfl | (rw [HJ.out])⟩
        | true =>
          by_cases hpos : 0 < i
          · obtain ⟨k, hk1⟩ : ∃ k, i = k + 1 := ⟨i - 1, by omega⟩
            obtain ⟨ad2, ea, hp0, hp1⟩ := at_T69 HR.out (k : Int) (by omega) (by have := HL.out; omega)
            cases ea
            obtain ⟨yp, hyp⟩ : ∃ yp, yp = rd_T69 l (k : Int) := ⟨_, rfl⟩
            rw [← hyp] at hp0 hp1
            have LA := Aside0.mk (HLa.out k yp hk1 (by rw [hyp]; rfl))
            have n0 := HF.out.ne hp0 (by intro b; simp)
            replace hp0 : (wr.alloc (.cells #[.string y.f0, .int .i64 y.f1] 69)).cell? (ad.add ((i - 1) * 2)) = some (.string yp.f0) := by
              rw [show i - 1 = k by omega]
              exact (World.cell?_alloc_lt wr _ _ (World.block_lt_of_cell? wr _ (HCL.out _ _ hp0 n0))).trans (HCL.out _ _ hp0 n0)
            clear hyp hp1 n0
            have hk0 : (0 : Int) ≤ (i : Int) - 1 := by omega
            have hkl : (i : Int) - 1 < (ln : Int) := by omega
            have hg0 : decide ((0 : Int) < (i : Int)) = true := decide_eq_true (by omega)
            clear hk1
            by_cases hge : Dk.nk yp.f0 < Dk.nk y.f0
            · have hbl : Op.bytesLess yp.f0.toList y.f0.toList = true := by rw [bl_eq]; exact decide_eq_true hge
              by_cases h0 : y.f1 < 0
              · have hd : decide (y.f1 < 0) = true := decide_eq_true h0
                go_big_quiet_o ((go_at_call 88; exact Calls.quiet_of ((V.out _).mono (fun e w' h => ⟨h.1, h.2.out⟩))))
                go_wp2
                go_meet
                exact ⟨congrArg Value.bool (HBB.out.trans (decide_eq_true (fun h => by rw [HT.out] at h; have h2 := (Dk.DirOK_snoc.1 h).2; omega))).symm, _, by first | rfl | (rw [HJ.out])⟩
              · by_cases h1 : (n : Int) ≤ y.f1
                · have hd : decide (y.f1 < 0) = false := decide_eq_false h0
                  have hd2 : decide ((n : Int) ≤ y.f1) = true := decide_eq_true h1
                  go_big_quiet_o ((go_at_call 88; exact Calls.quiet_of ((V.out _).mono (fun e w' h => ⟨h.1, h.2.out⟩))))
                  go_wp2
                  go_meet
                  exact ⟨congrArg Value.bool (HBB.out.trans (decide_eq_true (fun h => by rw [HT.out] at h; have h2 := (Dk.DirOK_snoc.1 h).2; omega))).symm, _, by first | rfl | (rw [HJ.out])⟩
                · obtain ⟨j, hj⟩ : ∃ j : Nat, y.f1 = (j : Int) := ⟨y.f1.toNat, (Int.toNat_of_nonneg (by omega)).symm⟩
                  have hjn : j < n := by omega
                  have hjj : ((j : Nat) : Int) < (n : Int) := by omega
                  have hj0 : (0 : Int) ≤ (j : Int) := by omega
                  have hd : decide ((j : Int) < 0) = false := decide_eq_false (by omega)
                  have hd2 : decide ((n : Int) ≤ (j : Int)) = false := decide_eq_false (by omega)
                  obtain ⟨mb, hmb⟩ : ∃ mb, mb = marked (l.take i) j := ⟨_, rfl⟩
                  have zb : (wr.alloc (.cells #[.string y.f0, .int .i64 y.f1] 69)).cell? ⟨N, j, none⟩ = some (.bool mb) := by rw [hmb]; exact Bools.cell (blk_alloc hB.out _) hjn
                  have MB := Aside0.mk hmb
                  have HJ := Aside0.mk hj
                  rw [hj] at hx1 z1 kN BN h0 h1 zb ⊢
                  try rw [hj] at hp0
                  clear hmb hj
                  cases mb with
                  | true =>
                    go_big_quiet_o ((go_at_call 88; exact Calls.quiet_of ((V.out _).mono (fun e w' h => ⟨h.1, h.2.out⟩))))
                    go_wp2
                    go_meet
                    exact ⟨congrArg Value.bool (HBB.out.trans (decide_eq_true (fun h => by rw [HT.out] at h; have h2 := (Dk.DirOK_snoc.1 h).2; have h3 := h2.2.2.2.2; rw [HJ.out, Int.toNat_natCast, ← MB.out] at h3; cases h3))).symm, _, by first | rfl | (rw [HJ.out])⟩
                  | false =>
                    go_big_quiet_o ((go_at_call 88; exact Calls.quiet_of ((V.out _).mono (fun e w' h => ⟨h.1, h.2.out⟩))))
                    go_wp2
                    go_meet
                    exact ⟨congrArg Value.bool (HBB.out.trans (decide_eq_false (fun h => h (by rw [HT.out]; exact Dk.DirOK_snoc.2 ⟨hD.out, HV.out.symm, fun x hx => by obtain rfl := Option.some.inj (hx.symm.trans LA.out); exact hge, by rw [HJ.out]; omega, by rw [HJ.out]; omega, by rw [HJ.out, Int.toNat_natCast]; exact MB.out.symm⟩)))).symm, _, by first | rfl | (rw [HJ.out])⟩

            · have hbl : Op.bytesLess yp.f0.toList y.f0.toList = false := by rw [bl_eq]; exact decide_eq_false hge
              go_big_quiet_o ((go_at_call 88; exact Calls.quiet_of ((V.out _).mono (fun e w' h => ⟨h.1, h.2.out⟩))))
              go_wp2
              go_meet
              exact ⟨congrArg Value.bool (HBB.out.trans (decide_eq_true (fun h => by rw [HT.out] at h; have h2 := (Dk.DirOK_snoc.1 h).2; exact hge (h2.2.1 _ LA.out)))).symm, _, by first | rfl | (rw [HJ.out])⟩

          · have hg0 : decide ((0 : Int) < (i : Int)) = false := decide_eq_false (by omega)
            by_cases h0 : y.f1 < 0
            · have hd : decide (y.f1 < 0) = true := decide_eq_true h0
              go_big_quiet_o ((go_at_call 88; exact Calls.quiet_of ((V.out _).mono (fun e w' h => ⟨h.1, h.2.out⟩))))
              go_wp2
              go_meet
              exact ⟨congrArg Value.bool (HBB.out.trans (decide_eq_true (fun h => by rw [HT.out] at h; have h2 := (Dk.DirOK_snoc.1 h).2; omega))).symm, _, by first | rfl | (rw [HJ.out])⟩
            · by_cases h1 : (n : Int) ≤ y.f1
              · have hd : decide (y.f1 < 0) = false := decide_eq_false h0
                have hd2 : decide ((n : Int) ≤ y.f1) = true := decide_eq_true h1
                go_big_quiet_o ((go_at_call 88; exact Calls.quiet_of ((V.out _).mono (fun e w' h => ⟨h.1, h.2.out⟩))))
                go_wp2
                go_meet
                exact ⟨congrArg Value.bool (HBB.out.trans (decide_eq_true (fun h => by rw [HT.out] at h; have h2 := (Dk.DirOK_snoc.1 h).2; omega))).symm, _, by first | rfl | (rw [HJ.out])⟩
              · obtain ⟨j, hj⟩ : ∃ j : Nat, y.f1 = (j : Int) := ⟨y.f1.toNat, (Int.toNat_of_nonneg (by omega)).symm⟩
                have hjn : j < n := by omega
                have hjj : ((j : Nat) : Int) < (n : Int) := by omega
                have hj0 : (0 : Int) ≤ (j : Int) := by omega
                have hd : decide ((j : Int) < 0) = false := decide_eq_false (by omega)
                have hd2 : decide ((n : Int) ≤ (j : Int)) = false := decide_eq_false (by omega)
                obtain ⟨mb, hmb⟩ : ∃ mb, mb = marked (l.take i) j := ⟨_, rfl⟩
                have zb : (wr.alloc (.cells #[.string y.f0, .int .i64 y.f1] 69)).cell? ⟨N, j, none⟩ = some (.bool mb) := by rw [hmb]; exact Bools.cell (blk_alloc hB.out _) hjn
                have MB := Aside0.mk hmb
                have HJ := Aside0.mk hj
                rw [hj] at hx1 z1 kN BN h0 h1 zb ⊢
                try rw [hj] at hp0
                clear hmb hj
                cases mb with
                | true =>
                  go_big_quiet_o ((go_at_call 88; exact Calls.quiet_of ((V.out _).mono (fun e w' h => ⟨h.1, h.2.out⟩))))
                  go_wp2
                  go_meet
                  exact ⟨congrArg Value.bool (HBB.out.trans (decide_eq_true (fun h => by rw [HT.out] at h; have h2 := (Dk.DirOK_snoc.1 h).2; have h3 := h2.2.2.2.2; rw [HJ.out, Int.toNat_natCast, ← MB.out] at h3; cases h3))).symm, _, by first | rfl | (rw [HJ.out])⟩
                | false =>
                  go_big_quiet_o ((go_at_call 88; exact Calls.quiet_of ((V.out _).mono (fun e w' h => ⟨h.1, h.2.out⟩))))
                  go_wp2
                  go_meet
                  exact ⟨congrArg Value.bool (HBB.out.trans (decide_eq_false (fun h => h (by rw [HT.out]; exact Dk.DirOK_snoc.2 ⟨hD.out, HV.out.symm, fun x hx => by rw [show i = 0 by omega] at hx; simp at hx, by rw [HJ.out]; omega, by rw [HJ.out]; omega, by rw [HJ.out, Int.toNat_natCast]; exact MB.out.symm⟩)))).symm, _, by first | rfl | (rw [HJ.out])⟩

      case rest =>
        obtain ⟨rfl, nq, rfl⟩ := hcut
        cases bb with
        | true =>
          have hnot : ¬ DirOK l n := fun h => by
            have h2 := of_decide_eq_true HBB.out.symm
            rw [HS.out, ← HT.out] at h
            exact h2 (Dk.DirOK_pre h)
          have hr1 : r = false := by rw [RR.out]; exact decide_eq_false hnot
          have HNOT := Aside0.mk hnot
          subst hr1
          clear RR hnot
          go_wp2
          go_ret
          exact ⟨_, rfl, blk_alloc hF.out _, grownBy_drewN (World.grownBy.trans hG.out (World.grownBy_alloc wr _ _)) _, fun h => absurd h HNOT.out⟩
        | false =>
          have hok : DirOK (l.take (i + 1)) n := Classical.not_not.1 (of_decide_eq_false HBB.out.symm)
          have h2 := (Dk.DirOK_snoc.1 (by rw [← HT.out]; exact hok : DirOK (l.take i ++ [y]) n)).2
          obtain ⟨j, hj⟩ : ∃ j : Nat, y.f1 = (j : Int) := ⟨y.f1.toNat, (Int.toNat_of_nonneg (by omega)).symm⟩
          have hjn : j < n := by omega
          have hjj : ((j : Nat) : Int) < (n : Int) := by omega
          have hj0 : (0 : Int) ≤ (j : Int) := by omega
          have MB := Aside0.mk (show ∀ k, marked (l.take (i + 1)) k = (marked (l.take i) k || decide (k = j)) from fun k => by rw [HT.out, Dk.marked_snoc, hj]; congr 1; exact decide_eq_decide.2 (by omega))
          have gW := grownBy_drewN (World.grownBy.trans hG.out (World.grownBy_alloc wr (.cells #[.string y.f0, .int .i64 y.f1] 69) _)) nq
          have bN : Bools ((wr.alloc (.cells #[.string y.f0, .int .i64 y.f1] 69)).drewN nq) N n (marked (l.take i)) := blk_alloc hB.out _
          have bG : Bools ((wr.alloc (.cells #[.string y.f0, .int .i64 y.f1] 69)).drewN nq) g n (fun j => f j || marked (l.take i) j) := blk_alloc hF.out _
          have kM : ((wr.alloc (.cells #[.string y.f0, .int .i64 y.f1] 69)).drewN nq).heap[wr.heap.size]? = _ := kN.out
          have nN : N < ((wr.alloc (.cells #[.string y.f0, .int .i64 y.f1] 69)).drewN nq).heap.size := blk_lt bN
          generalize (wr.alloc (.cells #[.string y.f0, .int .i64 y.f1] 69)).drewN nq = W at gW bN bG kM nN ⊢
          obtain ⟨M, hM⟩ : ∃ M, M = wr.heap.size := ⟨_, rfl⟩
          rw [← hM] at kM ⊢
          rw [hj] at kM
          have hMN : N ≠ M := fun e => blk_ne kM bN (by decide) e.symm
          have hMg : g ≠ M := fun e => blk_ne kM bG (by decide) e.symm
          have z1 : W.cell? ⟨M, 1, none⟩ = some (.int .i64 (j : Int)) := (blk_cell kM 1).trans rfl
          have HOK := Aside0.mk hok
          have GW := Aside0.mk gW
          have BN := Aside0.mk bN
          have BG := Aside0.mk bG
          obtain ⟨b1, hb1⟩ : ∃ b1, b1 = marked (l.take i) j := ⟨_, rfl⟩
          obtain ⟨b2, hb2⟩ : ∃ b2, b2 = (f j || marked (l.take i) j) := ⟨_, rfl⟩
          have cN : W.cell? ⟨N, j, none⟩ = some (.bool b1) := by rw [hb1]; exact Bools.cell bN hjn
          have cG : W.cell? ⟨g, j, none⟩ = some (.bool b2) := by rw [hb2]; exact Bools.cell bG hjn
          have fN : W.frozen? ⟨N, j, none⟩ = false := blk_frozen bN j
          have fG : W.frozen? ⟨g, j, none⟩ = false := blk_frozen bG j
          have hNg : N ≠ g := fun e => hgN e.symm
          clear hj h2 hok hx0 hx1 z0 kN hM kM gW bN bG hb1 hb2 HT HS HLa HBB hB hF hG V HCL
          go_wp2_with fail
          go_region_held3 (fun w' => w'.cell? ⟨M, 1, none⟩ = some (.int .i64 (j : Int))) (go_keep) (fail)
          all_goals go_wp2
          all_goals
            go_roundg (ln - i - 1)
            case measure => omega
            case rel =>
              have eN : (fun k => marked (l.take i) k || decide (k = j)) = marked (l.take (i + 1)) := funext fun k => (MB.out k).symm
              have eG : (fun k => (f k || marked (l.take i) k) || decide (k = j)) = fun k => f k || marked (l.take (i + 1)) k := funext fun k => by rw [MB.out k, Bool.or_assoc]
              refine ⟨i + 1, by first | rfl | (simp; done), hlt, by omega, HOK, ?_, ?_, ?_⟩
              · rw [← eN]
                exact ⟨by first | exact blk_drew (blk_far (Bools.set BN.out hjn) hNg _) | exact blk_drew (Bools.set (blk_far BN.out hNg _) hjn)⟩
              · rw [← eG]
                exact ⟨by first | exact blk_drew (blk_far (Bools.set BG.out hjn) hgN _) | exact blk_drew (Bools.set (blk_far BG.out hgN _) hjn)⟩
              · have hNw : w.heap.size ≤ N := by have := NN.out; omega
                exact ⟨by first | exact grownBy_drewD (grown_set (grown_set GW.out _ (.inl hNw)) _ (.inr rfl)) | exact grownBy_drewD (grown_set (grown_set GW.out _ (.inr rfl)) _ (.inl hNw))⟩
    · have e : DirOK l n := by have := hD.out; rwa [List.take_of_length_le (by have := HL.out; omega)] at this
      have hr1 : r = true := by rw [RR.out]; exact decide_eq_true e
      subst hr1
      clear e hD RR
      go_wp2
      go_ret
      exact ⟨_, rfl, hF.out, hG.out, fun _ j => by rw [List.take_of_length_le (by have := HL.out; omega)]⟩
end Go.Proofs.Ytnaddmkaakdhoaa.J

end
section
namespace Go.Proofs.Ytnaddmkaakdhoaa.J
open Go.RowKit Go.Proofs.YtnaddmkaakdhoaaW.PrintWords Go.Proofs.YtnaddmkaakdhoaaW.PrintLast Go.Proofs.YtnaddmkaakdhoaaW.PrintMore
set_option linter.unusedVariables false
set_option linter.unusedSimpArgs false
set_option maxHeartbeats 8000000 in
set_option maxRecDepth 100000 in
theorem late64_calls (x : S69) (D NB : Nat) (A0 : Option Addr) (c0 n m : Nat) (w : World) (hD : w.cell? ⟨D, 0, none⟩ = some (.slice A0 n c0)) (hN : w.cell? ⟨NB, 0, none⟩ = some (.int .i64 (m : Nat))) (hn : n ≤ 1000000) (hm : m ≤ 1000000) :
    Calls Try.prog 64 #[.agg #[.string x.f0, .int .i64 x.f1], .pointer (some ⟨D, 0, none⟩), .pointer (some ⟨NB, 0, none⟩)] w fun e w' => e = .returned (.bool (decide ((n : Int) - (m : Int) ≤ x.f1))) ∧ Below w.heap.size w w' := by
  have hD2 := fun o => (World.cell?_alloc_lt w o _ (World.block_lt_of_cell? w _ hD)).trans hD
  have hN2 := fun o => (World.cell?_alloc_lt w o _ (World.block_lt_of_cell? w _ hN)).trans hN
  have z0 := (blk_cell (blk_new w (.cells #[.string x.f0, .int .i64 x.f1] 69)) 1).trans rfl
  have b0 := (Below.refl w.heap.size w).alloc (Nat.le_refl _) (.cells #[.string x.f0, .int .i64 x.f1] 69)
  have B := Aside0.mk b0
  clear b0
  go_enter Try.func64, Try.ntmps64
  go_wp2_with fail
  go_ret
  exact ⟨rfl, B.out⟩
set_option maxHeartbeats 8000000 in
set_option maxRecDepth 100000 in
theorem index89_calls (A : Option Addr) (c : Nat) (l : List S69) (D NB : Nat) (A0 : Option Addr) (c0 n m : Nat) (w : World) (hr : Kd.C k69 w A l.length l) (hc : l.length ≤ c) (hD : w.cell? ⟨D, 0, none⟩ = some (.slice A0 n c0)) (hN : w.cell? ⟨NB, 0, none⟩ = some (.int .i64 (m : Nat))) (hn : n ≤ 1000000) (hm : m ≤ 1000000) :
    Calls Try.prog 89 #[.slice A l.length c, .func (.func 64) #[] #[.pointer (some ⟨D, 0, none⟩), .pointer (some ⟨NB, 0, none⟩)]] w fun e w' => ∃ r : Int, e = .returned (.int .i64 r) ∧ decide (0 ≤ r) = l.any (fun x => decide ((n : Int) - (m : Int) ≤ x.f1)) ∧ Below w.heap.size w w' := by
  have HR := Aside0.mk hr
  have hlen : l.length ≤ 9223372036854775807 := HR.out.2.1
  have LC := Aside0.mk (fun x w' (hb : Below w.heap.size w w') => late64_calls x D NB A0 c0 n m w' ((hb.cell (World.block_lt_of_cell? w _ hD)).trans hD) ((hb.cell (World.block_lt_of_cell? w _ hN)).trans hN) hn hm)
  obtain ⟨ln, hln⟩ : ∃ ln, ln = l.length := ⟨_, rfl⟩
  have HL := Aside0.mk hln
  rw [← hln] at hlen hc ⊢
  have HB := Aside0.mk (Below.refl w.heap.size w)
  clear hr hln hD hN
  go_enter Try.func89, Try.ntmps89
  go_wp2_with fail
  go_loopg [8] ln (fun kx s8 wr => ∃ i : Nat, s8 = .int .i64 i ∧ i ≤ ln ∧ ln - i ≤ kx ∧ Aside0 ((l.take i).any (fun x => decide ((n : Int) - (m : Int) ≤ x.f1)) = false) ∧ Aside0 (Below w.heap.size w wr))
  case atStart => exact ⟨0, rfl, Nat.zero_le _, by omega, ⟨by simp⟩, HB⟩
  case round =>
    clear HB
    obtain ⟨i, rfl, hi, hk, hA, HB⟩ := hrel
    by_cases hlt : i < ln
    · obtain ⟨ad, ea, hx0, hx1⟩ := at_T69 HR.out (i : Int) (by omega) (by have := HL.out; omega)
      cases ea
      obtain ⟨y, hy⟩ : ∃ y, y = rd_T69 l (i : Int) := ⟨_, rfl⟩
      rw [← hy] at hx0 hx1
      replace hx0 : wr.cell? (ad.add (i * 2)) = some (.string y.f0) := (HB.out.cell (World.block_lt_of_cell? w _ hx0)).trans hx0
      replace hx1 : wr.cell? ⟨(ad.add (i * 2)).block, (ad.add (i * 2)).off + 1, none⟩ = some (.int .i64 y.f1) := (HB.out.cell (World.block_lt_of_cell? w _ hx1)).trans hx1
      have hil : i < l.length := by have := HL.out; omega
      have hyi : l[i] = y := by
        rw [hy]
        show _ = l.getD i z69
        rw [Dk.getD_eq hil]
      have htk := Aside0.mk (show l.take (i + 1) = l.take i ++ [y] by rw [List.take_succ_eq_append_getElem hil, hyi])
      have hmem := Aside0.mk (show y ∈ l from hyi ▸ List.getElem_mem hil)
      clear hy hyi
      by_cases hge : (n : Int) - (m : Int) ≤ y.f1
      · have hd : decide ((n : Int) - (m : Int) ≤ y.f1) = true := decide_eq_true hge
        go_wp2_with (go_at_call 64; refine (LC.out y _ HB.out).mono ?_; rintro e w' ⟨rfl, hb⟩; have HB2 := Aside0.mk (HB.out.trans (hb.mono HB.out.size)); clear HB hb)
        go_ret
        exact ⟨(i : Int), rfl, by
          have h1 : l.any (fun x => decide ((n : Int) - (m : Int) ≤ x.f1)) = true := List.any_eq_true.2 ⟨y, hmem.out, hd⟩
          rw [h1]; exact decide_eq_true (by omega), HB2.out⟩
      · have hd : decide ((n : Int) - (m : Int) ≤ y.f1) = false := decide_eq_false hge
        go_wp2_with (go_at_call 64; refine (LC.out y _ HB.out).mono ?_; rintro e w' ⟨rfl, hb⟩; have HB2 := Aside0.mk (HB.out.trans (hb.mono HB.out.size)); clear HB hb)
        go_roundg (ln - i - 1)
        case measure => omega
        case rel => exact ⟨i + 1, by first | rfl | (simp; done), hlt, by omega, ⟨by rw [htk.out, List.any_append, hA.out]; simpa using hge⟩, HB2⟩
    · go_wp2
      go_ret
      exact ⟨-1, rfl, by
        have := hA.out
        rw [List.take_of_length_le (by have := HL.out; omega)] at this
        rw [this]; rfl, HB.out⟩
set_option maxHeartbeats 8000000 in
set_option maxRecDepth 100000 in
theorem contains63_calls (A : Option Addr) (c : Nat) (l : List S69) (D NB : Nat) (A0 : Option Addr) (c0 n m : Nat) (w : World) (hr : Kd.C k69 w A l.length l) (hc : l.length ≤ c) (hD : w.cell? ⟨D, 0, none⟩ = some (.slice A0 n c0)) (hN : w.cell? ⟨NB, 0, none⟩ = some (.int .i64 (m : Nat))) (hn : n ≤ 1000000) (hm : m ≤ 1000000) :
    Calls Try.prog 63 #[.slice A l.length c, .func (.func 64) #[] #[.pointer (some ⟨D, 0, none⟩), .pointer (some ⟨NB, 0, none⟩)]] w fun e w' => e = .returned (.bool (l.any (fun x => decide ((n : Int) - (m : Int) ≤ x.f1)))) ∧ Below w.heap.size w w' := by
  have LC := Aside0.mk (index89_calls A c l D NB A0 c0 n m w hr hc hD hN hn hm)
  clear hr hD hN
  go_enter Try.func63, Try.ntmps63
  go_wp2_with fail
  refine LC.out.mono ?_
  rintro e w1 ⟨r, rfl, h1, h2⟩
  have H1 := Aside0.mk h1
  have H2 := Aside0.mk h2
  clear h1 h2
  go_wp2
  go_ret
  exact ⟨by rw [← H1.out]; rfl, H2.out⟩
end Go.Proofs.Ytnaddmkaakdhoaa.J

end
section
namespace Go.Proofs.Ytnaddmkaakdhoaa.J
open Go.RowKit Go.Proofs.YtnaddmkaakdhoaaW.PrintWords Go.Proofs.YtnaddmkaakdhoaaW.PrintLast Go.Proofs.YtnaddmkaakdhoaaW.PrintMore
attribute [local go_sem] max2_int min2_int max_two min_two max_three min_three max_four min_four   -- for this text's walks alone
set_option linter.unusedVariables false
set_option linter.unusedSimpArgs false

theorem eqA69 (d : Nat) (w : World) (x0 y0 : ByteArray) (x1 y1 : Int) :
    (Op.equalIn (d + 2) 69 (.agg #[.string x0, .int .i64 x1]) (.agg #[.string y0, .int .i64 y1])).run Try.prog w = .ok (x0.toList == y0.toList && (x1 == y1)) w := by
  refine eqA_of Try.underlying69 (by kernel_rfl) ?_
  refine eqf_cons (by rfl) (by go_simp; rfl) (by go_simp; rfl) (by go_simp) ?_
  exact eqf_last (by rfl) (by go_simp; rfl) (by go_simp; rfl) (by go_simp)
end Go.Proofs.Ytnaddmkaakdhoaa.J

end
section
namespace Go.Proofs.Ytnaddmkaakdhoaa.J
open Go.RowKit Go.Proofs.YtnaddmkaakdhoaaW.PrintWords Go.Proofs.YtnaddmkaakdhoaaW.PrintLast Go.Proofs.YtnaddmkaakdhoaaW.PrintMore
set_option linter.unusedVariables false
set_option linter.unusedSimpArgs false
instance : DecidableEq S69 := fun x y => decidable_of_iff (x.f0 = y.f0 ∧ x.f1 = y.f1) ⟨fun h => by obtain ⟨h1, h2⟩ := h; cases x; cases y; simp only at h1 h2; subst h1; subst h2; rfl, fun h => h ▸ ⟨rfl, rfl⟩⟩
instance : DecidableEq S67 := fun x y => decidable_of_iff (x.f0 = y.f0 ∧ x.f1 = y.f1) ⟨fun h => by obtain ⟨h1, h2⟩ := h; cases x; cases y; simp only at h1 h2; subst h1; subst h2; rfl, fun h => h ▸ ⟨rfl, rfl⟩⟩
instance : DecidableEq S49 := fun x y => decidable_of_iff (x.f0 = y.f0 ∧ x.f1 = y.f1 ∧ x.f2 = y.f2 ∧ x.f3 = y.f3) ⟨fun h => by obtain ⟨h1, h2, h3, h4⟩ := h; cases x; cases y; simp only at h1 h2 h3 h4; subst h1; subst h2; subst h3; subst h4; rfl, fun h => h ▸ ⟨rfl, rfl, rfl, rfl⟩⟩
theorem tl_eq {a b : ByteArray} : a.toList = b.toList ↔ a = b := by
  rw [Lib.toList_data, Lib.toList_data]
  exact Dk.nk_iff
theorem eq69_iff {x y : S69} {p q : Bool} (hp : (x.f0.toList == y.f0.toList) = p) (hq : (x.f1 == y.f1) = q) : x = y ↔ p = true ∧ q = true := by
  subst hp
  subst hq
  rw [beq_iff_eq, beq_iff_eq, tl_eq]
  constructor
  · rintro rfl; exact ⟨rfl, rfl⟩
  · rintro ⟨h1, h2⟩; cases x; cases y; simp only at h1 h2; subst h1; subst h2; rfl
theorem take_ne {α : Type} {l m : List α} {i : Nat} (hi : i < l.length) (hj : i < m.length) (h : l[i] ≠ m[i]) : l ≠ m := fun e => by subst e; exact h rfl
theorem take_snoc {α : Type} {l m : List α} {i : Nat} (hi : i < l.length) (hj : i < m.length) (h : l.take i = m.take i) (e : l[i] = m[i]) : l.take (i + 1) = m.take (i + 1) := by
  rw [List.take_succ_eq_append_getElem hi, List.take_succ_eq_append_getElem hj, h, e]
attribute [local go_sem high] eqA69
set_option maxHeartbeats 8000000 in
set_option maxRecDepth 100000 in
theorem equal66_calls (A : Option Addr) (c : Nat) (l : List S69) (A' : Option Addr) (c' : Nat) (m : List S69) (w : World) (hr : Kd.C k69 w A l.length l) (hc : l.length ≤ c) (hr' : Kd.C k69 w A' m.length m) (hc' : m.length ≤ c') :
    Calls Try.prog 66 #[.slice A l.length c, .slice A' m.length c'] w fun e w' => e = .returned (.bool (decide (l = m))) ∧ Below w.heap.size w w' := by
  have HR := Aside0.mk hr
  have HM := Aside0.mk hr'
  have hlen : l.length ≤ 9223372036854775807 := HR.out.2.1
  obtain ⟨r, hrr⟩ : ∃ r, r = decide (l = m) := ⟨_, rfl⟩
  rw [← hrr]
  have RR := Aside0.mk hrr
  clear hrr hr hr'
  obtain ⟨lm, hlm⟩ : ∃ lm, lm = m.length := ⟨_, rfl⟩
  have HLM := Aside0.mk hlm
  rw [← hlm] at hc' ⊢
  obtain ⟨ln, hln⟩ : ∃ ln, ln = l.length := ⟨_, rfl⟩
  have HL := Aside0.mk hln
  rw [← hln] at hlen hc ⊢
  clear hln hlm
  by_cases hne : ln = lm
  · subst hne
    go_enter Try.func66, Try.ntmps66
    go_wp2_with fail
    go_loopg [13] ln (fun kx s13 wr => ∃ i : Nat, s13 = .int .i64 i ∧ i ≤ ln ∧ ln - i ≤ kx ∧ Aside0 (l.take i = m.take i) ∧ Aside0 (Below w.heap.size w wr))
    case atStart => exact ⟨0, rfl, Nat.zero_le _, by omega, ⟨rfl⟩, ⟨Below.refl _ _⟩⟩
    case round =>
      obtain ⟨i, rfl, hi, hk, hA, HB⟩ := hrel
      by_cases hlt : i < ln
      · obtain ⟨ad, ea, hx0, hx1⟩ := at_T69 HR.out (i : Int) (by omega) (by have := HL.out; omega)
        cases ea
        obtain ⟨ad', ea, hy0, hy1⟩ := at_T69 HM.out (i : Int) (by omega) (by have := HLM.out; omega)
        cases ea
        obtain ⟨x, hx⟩ : ∃ x, x = rd_T69 l (i : Int) := ⟨_, rfl⟩
        obtain ⟨y, hy⟩ : ∃ y, y = rd_T69 m (i : Int) := ⟨_, rfl⟩
        rw [← hx] at hx0 hx1
        rw [← hy] at hy0 hy1
        replace hx0 : wr.cell? (ad.add (i * 2)) = some (.string x.f0) := (HB.out.cell (World.block_lt_of_cell? w _ hx0)).trans hx0
        replace hx1 : wr.cell? ⟨(ad.add (i * 2)).block, (ad.add (i * 2)).off + 1, none⟩ = some (.int .i64 x.f1) := (HB.out.cell (World.block_lt_of_cell? w _ hx1)).trans hx1
        replace hy0 : wr.cell? (ad'.add (i * 2)) = some (.string y.f0) := (HB.out.cell (World.block_lt_of_cell? w _ hy0)).trans hy0
        replace hy1 : wr.cell? ⟨(ad'.add (i * 2)).block, (ad'.add (i * 2)).off + 1, none⟩ = some (.int .i64 y.f1) := (HB.out.cell (World.block_lt_of_cell? w _ hy1)).trans hy1
        have hil : i < l.length := by have := HL.out; omega
        have him : i < m.length := by have := HLM.out; omega
        have X := Aside0.mk (show l[i] = x by rw [hx]; show _ = l.getD i z69; rw [Dk.getD_eq hil])
        have Y := Aside0.mk (show m[i] = y by rw [hy]; show _ = m.getD i z69; rw [Dk.getD_eq him])
        have hi0 : (0 : Int) ≤ (i : Int) := by omega
        have hi1 : (i : Int) < (ln : Int) := by omega
        clear hx hy
        obtain ⟨p, hp⟩ : ∃ p, (x.f0.toList == y.f0.toList) = p := ⟨_, rfl⟩
        obtain ⟨q, hq⟩ : ∃ q, (x.f1 == y.f1) = q := ⟨_, rfl⟩
        have E := Aside0.mk (eq69_iff hp hq)
        cases p <;> cases q
        all_goals go_wp2_with fail
        all_goals go_quiet (fail)
        all_goals go_wp2
        all_goals first
          | (go_roundg (ln - i - 1)
             case measure => omega
             case rel => exact ⟨i + 1, by first | rfl | (simp; done), hlt, by omega, ⟨take_snoc hil him hA.out (by rw [X.out, Y.out]; have e1 := E.out; simpa using e1)⟩, ⟨pw_below_drewN HB.out _⟩⟩)
          | (go_ret
             exact ⟨by rw [RR.out, decide_eq_false (take_ne hil him (by rw [X.out, Y.out]; have e1 := E.out; simpa using e1))]; rfl, pw_below_drewN HB.out _⟩)
      · have e : r = true := by
          have := hA.out
          rw [List.take_of_length_le (by have := HL.out; omega), List.take_of_length_le (by have := HLM.out; omega)] at this
          rw [RR.out]; exact decide_eq_true this
        subst e
        clear RR
        go_wp2
        go_ret
        exact ⟨rfl, HB.out⟩
  · have e : r = false := by
      rw [RR.out]; exact decide_eq_false (fun e => hne (by rw [HL.out, HLM.out, e]))
    subst e
    clear RR
    have hne' : ¬ ((ln : Int) = (lm : Int)) := by omega
    go_enter Try.func66, Try.ntmps66
    go_wp2
    go_ret
    exact ⟨rfl, Below.refl _ _⟩
end Go.Proofs.Ytnaddmkaakdhoaa.J

end
section
namespace Go.Proofs.Ytnaddmkaakdhoaa.Dk
open J
def inoBad (d : Dsk) (i : Nat) (x : S67) : Bool := (!(marked d.dir i || marked d.dur i) && decide ((i : Int) < (d.ino.length : Int) - (crt d.ops : Nat))) || decide (x.f1 < 0) || decide ((x.f0.size : Int) < x.f1) || decide (1048576 < (x.f0.size : Int))
def valid (d : Dsk) : Bool :=
  decide (DirOK d.dir d.ino.length) && decide (DirOK d.dur d.ino.length) && decide (crt d.ops ≤ d.ino.length) && !(d.dur.any (fun x => decide ((d.ino.length : Int) - (crt d.ops : Nat) ≤ x.f1))) &&
    (List.range d.ino.length).all (fun i => !inoBad d i (d.ino.getD i z67)) && decide (rep d.dur ((d.ino.length : Int) - (crt d.ops : Nat)) d.ops = some d.dir)
theorem valid_iff {d : Dsk} : valid d = true ↔ DirOK d.dir d.ino.length ∧ DirOK d.dur d.ino.length ∧ crt d.ops ≤ d.ino.length ∧ d.dur.any (fun x => decide ((d.ino.length : Int) - (crt d.ops : Nat) ≤ x.f1)) = false ∧
    (∀ i, i < d.ino.length → inoBad d i (d.ino.getD i z67) = false) ∧ rep d.dur ((d.ino.length : Int) - (crt d.ops : Nat)) d.ops = some d.dir := by
  unfold valid
  simp only [Bool.and_eq_true, decide_eq_true_eq, Bool.not_eq_true', List.all_eq_true, List.mem_range, and_assoc]
end Go.Proofs.Ytnaddmkaakdhoaa.Dk
namespace Go.Proofs.Ytnaddmkaakdhoaa.J
open Go.RowKit Go.Proofs.YtnaddmkaakdhoaaW.PrintWords Go.Proofs.YtnaddmkaakdhoaaW.PrintLast Go.Proofs.YtnaddmkaakdhoaaW.PrintMore
open Dk (Srt crt rep repd DirOK marked valid valid_iff inoBad)
set_option linter.unusedVariables false
set_option linter.unusedSimpArgs false
set_option maxHeartbeats 8000000 in
set_option maxRecDepth 100000 in
theorem validate_calls (a : Value) (d : Dsk) (w : World) (hd : DC w a d) (hs : Sml 100000 d) :
    Calls Try.prog 35 #[a] w fun e w' => e = .returned (.int .i64 (if valid d = true then 0 else 9)) ∧ Below w.heap.size w w' := by
  obtain ⟨A0, c0, A1, c1, A2, c2, A3, c3, rfl, ⟨r0, l0⟩, ⟨r1, l1⟩, ⟨r2, l2⟩, ⟨r3, l3⟩⟩ := hd
  obtain ⟨n0, n1, n2, n3⟩ := hs
  obtain ⟨r, hr⟩ : ∃ r : Int, r = if valid d = true then 0 else 9 := ⟨_, rfl⟩
  rw [← hr]
  have HV := Aside0.mk (show ¬ valid d = true → r = 9 from fun h => by rw [hr, if_neg h])
  have HW := Aside0.mk (show valid d = true → r = 0 from fun h => by rw [hr, if_pos h])
  have R0 := Aside0.mk r0
  have R1 := Aside0.mk r1
  have R2 := Aside0.mk r2
  have R3 := Aside0.mk r3
  have DD := Aside0.mk (show DC w (.agg #[.slice A0 d.ino.length c0, .slice A1 d.dir.length c1, .slice A2 d.dur.length c2, .slice A3 d.ops.length c3]) d from ⟨A0, c0, A1, c1, A2, c2, A3, c3, rfl, ⟨r0, l0⟩, ⟨r1, l1⟩, ⟨r2, l2⟩, ⟨r3, l3⟩⟩)
  clear hr r0 r1 r2 r3
  obtain ⟨n, hn⟩ : ∃ n, n = d.ino.length := ⟨_, rfl⟩
  have HN := Aside0.mk hn
  rw [← hn] at l0 n0 ⊢
  have hmk := make_bools n (by omega)
  clear hn
  obtain ⟨b1, hb1⟩ : ∃ b1, b1 = decide (DirOK d.dir n) := ⟨_, rfl⟩
  obtain ⟨b2, hb2⟩ : ∃ b2, b2 = decide (DirOK d.dur n) := ⟨_, rfl⟩
  have C1 := Aside0.mk (fun w' g' f' hb' hr' => directory_calls A1 c1 d.dir g' n f' w' hr' l1 (by omega) hb')
  have C2 := Aside0.mk (fun w' g' f' hb' hr' => directory_calls A2 c2 d.dur g' n f' w' hr' l2 (by omega) hb')
  rw [← hb1] at C1
  rw [← hb2] at C2
  have H1 := Aside0.mk hb1
  have H2 := Aside0.mk hb2
  clear hb1 hb2
  go_enter Try.func35, Try.ntmps35
  go_wp2_with fail
  have B0 := ((Below.refl w.heap.size w).alloc (Nat.le_refl _) (.cells #[.slice A0 n c0, .slice A1 d.dir.length c1, .slice A2 d.dur.length c2, .slice A3 d.ops.length c3] 47)).alloc (by simp) (.cells (bcells n (fun _ => false)) 4)
  have k0 := blk_alloc (blk_new w (.cells #[.slice A0 n c0, .slice A1 d.dir.length c1, .slice A2 d.dur.length c2, .slice A3 d.ops.length c3] 47)) (.cells (bcells n (fun _ => false)) 4)
  have g0 : Bools ((w.alloc (.cells #[.slice A0 n c0, .slice A1 d.dir.length c1, .slice A2 d.dur.length c2, .slice A3 d.ops.length c3] 47)).alloc (.cells (bcells n (fun _ => false)) 4)) (w.heap.size + 1) n (fun _ => false) := by
    have := blk_new (w.alloc (.cells #[.slice A0 n c0, .slice A1 d.dir.length c1, .slice A2 d.dur.length c2, .slice A3 d.ops.length c3] 47)) (.cells (bcells n (fun _ => false)) 4)
    rwa [show (w.alloc (.cells #[.slice A0 n c0, .slice A1 d.dir.length c1, .slice A2 d.dur.length c2, .slice A3 d.ops.length c3] 47)).heap.size = w.heap.size + 1 by simp] at this
  generalize (w.alloc (.cells #[.slice A0 n c0, .slice A1 d.dir.length c1, .slice A2 d.dur.length c2, .slice A3 d.ops.length c3] 47)).alloc (.cells (bcells n (fun _ => false)) 4) = W0 at B0 k0 g0 ⊢
  refine (C1.out W0 (w.heap.size + 1) _ g0 (Kd.C_below R1.out B0)).mono ?_
  rintro e w1 ⟨f1, rfl, hb1, hg1, hm1⟩
  have HB1 := Aside0.mk (pw_below_grown B0 _ B0.size hg1 (fun k hk => by injection hk with hk; omega))
  have K1 := Aside0.mk (blk_grown k0 hg1 (by intro e; injection e with e; omega))
  have G1 := Aside0.mk hb1
  have M1 := Aside0.mk hm1
  clear B0 k0 g0 hb1 hg1 hm1 C1
  cases b1 with
  | false =>
    have e := HV.out (fun h => by
      have := (valid_iff.1 h).1
      rw [← HN.out] at this
      exact of_decide_eq_false H1.out.symm this)
    subst e
    clear HV HW
    go_wp2
    go_ret
    exact ⟨rfl, HB1.out⟩
  | true =>
    have z2 : w1.cell? ⟨w.heap.size, 2, none⟩ = some (.slice A2 d.dur.length c2) := (blk_cell K1.out 2).trans rfl
    go_wp2_with fail
    refine (C2.out w1 (w.heap.size + 1) _ G1.out (Kd.C_below R2.out HB1.out)).mono ?_
    rintro e w2 ⟨f2, rfl, hb2, hg2, hm2⟩
    have HB2 := Aside0.mk (pw_below_grown HB1.out _ HB1.out.size hg2 (fun k hk => by injection hk with hk; omega))
    have K2 := Aside0.mk (blk_grown K1.out hg2 (by intro e; injection e with e; omega))
    have G2 := Aside0.mk hb2
    have M2 := Aside0.mk hm2
    clear z2 hb2 hg2 hm2 C2 HB1 K1 G1
    cases b2 with
    | false =>
      have e := HV.out (fun h => by
        have := (valid_iff.1 h).2.1
        rw [← HN.out] at this
        exact of_decide_eq_false H2.out.symm this)
      subst e
      clear HV HW
      go_wp2
      go_ret
      exact ⟨rfl, HB2.out⟩
    | true =>
      have d1 : DirOK d.dir n := of_decide_eq_true H1.out.symm
      have d2 : DirOK d.dur n := of_decide_eq_true H2.out.symm
      have F2 := Aside0.mk (show ∀ j, f2 j = (marked d.dir j || marked d.dur j) from fun j => by rw [M2.out d2, M1.out d1]; simp)
      have D1 := Aside0.mk d1
      have D2 := Aside0.mk d2
      have z3 : w2.cell? ⟨w.heap.size, 3, none⟩ = some (.slice A3 d.ops.length c3) := (blk_cell K2.out 3).trans rfl
      clear M1 M2 d1 d2 H1 H2
      have CQ := Aside0.mk (fun w' hC => created_calls A3 c3 d.ops w' hC l3)
      have hqle : crt d.ops ≤ d.ops.length := List.countP_le_length
      obtain ⟨q, hq⟩ : ∃ q, q = crt d.ops := ⟨_, rfl⟩
      rw [← hq] at CQ hqle
      have HQ := Aside0.mk hq
      clear hq
      go_wp2_with fail
      refine (CQ.out w2 (Kd.C_below R3.out HB2.out)).mono ?_
      rintro e w3 ⟨rfl, hb3⟩
      have HB3 := Aside0.mk (below_step HB2.out hb3)
      have K3 := Aside0.mk (blk_below K2.out hb3)
      have G3 : Aside0 (Bools w3 (w.heap.size + 1) n f2) := ⟨blk_below G2.out hb3⟩
      clear z3 hb3 CQ HB2 K2 G2
      have HB4 := Aside0.mk (below_alloc HB3.out (.cells #[.int .i64 (q : Nat)] 3))
      have K4 := Aside0.mk (blk_alloc K3.out (.cells #[.int .i64 (q : Nat)] 3))
      have G4 : Aside0 (Bools (w3.alloc (.cells #[.int .i64 (q : Nat)] 3)) (w.heap.size + 1) n f2) := ⟨blk_alloc G3.out _⟩
      have P4 := Aside0.mk (blk_new w3 (.cells #[.int .i64 (q : Nat)] 3))
      have z0 : (w3.alloc (.cells #[.int .i64 (q : Nat)] 3)).cell? ⟨w.heap.size, 0, none⟩ = some (.slice A0 n c0) := (blk_cell K4.out 0).trans rfl
      have z2 : (w3.alloc (.cells #[.int .i64 (q : Nat)] 3)).cell? ⟨w.heap.size, 2, none⟩ = some (.slice A2 d.dur.length c2) := (blk_cell K4.out 2).trans rfl
      clear HB3 K3 G3
      by_cases hqn : n < q
      · have e := HV.out (fun h => by
          have := (valid_iff.1 h).2.2.1
          rw [← HN.out, ← HQ.out] at this
          omega)
        subst e
        clear HV HW
        have hqn' : (n : Int) < (q : Int) := by omega
        go_wp2
        go_ret
        exact ⟨rfl, HB4.out⟩
      · have hqn' : ¬ (n : Int) < (q : Int) := by omega
        have hq1 : q ≤ 1000000 := by omega
        obtain ⟨b3, hb3⟩ : ∃ b3, b3 = d.dur.any (fun x => decide ((n : Int) - (q : Int) ≤ x.f1)) := ⟨_, rfl⟩
        have C3 := Aside0.mk (fun w' D P hr' hD hN => contains63_calls A2 c2 d.dur D P A0 c0 n q w' hr' l2 hD hN (by omega) hq1)
        rw [← hb3] at C3
        have H3 := Aside0.mk hb3
        clear hb3
        go_wp2_with fail
        generalize w3.alloc (.cells #[.int .i64 (q : Nat)] 3) = W4 at HB4 K4 G4 P4 z0 z2 ⊢
        obtain ⟨P, hP⟩ : ∃ P, P = w3.heap.size := ⟨_, rfl⟩
        rw [← hP] at P4 ⊢
        clear hP
        have zp : W4.cell? ⟨P, 0, none⟩ = some (.int .i64 (q : Nat)) := (blk_cell P4.out 0).trans rfl
        refine (C3.out W4 _ _ (Kd.C_below R2.out HB4.out) z0 zp).mono ?_
        rintro e w5 ⟨rfl, hb5⟩
        have HB5 := Aside0.mk (below_step HB4.out hb5)
        have K5 := Aside0.mk (blk_below K4.out hb5)
        have G5 : Aside0 (Bools w5 (w.heap.size + 1) n f2) := ⟨blk_below G4.out hb5⟩
        have P5 := Aside0.mk (blk_below P4.out hb5)
        clear z0 z2 zp hb5 HB4 K4 G4 P4 C3
        cases b3 with
        | true =>
          have e := HV.out (fun h => by
            have := (valid_iff.1 h).2.2.2.1
            rw [← HN.out, ← HQ.out, ← H3.out] at this
            cases this)
          subst e
          clear HV HW
          go_wp2
          go_ret
          exact ⟨rfl, HB5.out⟩
        | false =>
          have z0 : w5.cell? ⟨w.heap.size, 0, none⟩ = some (.slice A0 n c0) := (blk_cell K5.out 0).trans rfl
          obtain ⟨D, hD⟩ : ∃ D, D = w.heap.size := ⟨_, rfl⟩
          obtain ⟨G, hG⟩ : ∃ G, G = w.heap.size + 1 := ⟨_, rfl⟩
          have HD := Aside0.mk hD
          have hlt5 : w.heap.size < w5.heap.size := blk_lt K5.out
          rw [← hG] at G5 ⊢
          rw [← hD] at K5 z0 ⊢
          clear hD hG
          go_wp2_with fail
          go_loopg [42] n (fun kx s42 wr => ∃ i : Nat, s42 = .int .i64 i ∧ i ≤ n ∧ n - i ≤ kx ∧ Aside0 (∀ j, j < i → inoBad d j (d.ino.getD j z67) = false) ∧ Aside0 (Below w.heap.size w wr) ∧ Aside0 (wr.heap[D]? = some (.cells #[.slice A0 n c0, .slice A1 d.dir.length c1, .slice A2 d.dur.length c2, .slice A3 d.ops.length c3] 47 (0, 0))) ∧ Aside0 (Bools wr G n f2) ∧ Aside0 (wr.heap[P]? = some (.cells #[.int .i64 (q : Nat)] 3 (0, 0))))
          case atStart => exact ⟨0, rfl, Nat.zero_le _, by omega, ⟨fun j hj => absurd hj (Nat.not_lt_zero _)⟩, HB5, K5, G5, P5⟩
          case round =>
            clear HB5 K5 G5 P5 z0
            obtain ⟨i, rfl, hi, hk, hA, HB, K, GG, PP⟩ := hrel
            by_cases hlt : i < n
            · obtain ⟨ad, ea, hx0, hx1⟩ := at_T67 R0.out (i : Int) (by omega) (by have := HN.out; omega)
              cases ea
              obtain ⟨y, hy⟩ : ∃ y, y = rd_T67 d.ino (i : Int) := ⟨_, rfl⟩
              rw [← hy] at hx0 hx1
              replace hx0 : wr.cell? (ad.add (i * 2)) = some (.string y.f0) := (HB.out.cell (World.block_lt_of_cell? w _ hx0)).trans hx0
              replace hx1 : wr.cell? ⟨(ad.add (i * 2)).block, (ad.add (i * 2)).off + 1, none⟩ = some (.int .i64 y.f1) := (HB.out.cell (World.block_lt_of_cell? w _ hx1)).trans hx1
              have Y := Aside0.mk (show d.ino.getD i z67 = y from by rw [hy]; rfl)
              clear hy
              have hB := below_alloc HB.out (.cells #[.string y.f0, .int .i64 y.f1] 67)
              have hK := blk_alloc K.out (.cells #[.string y.f0, .int .i64 y.f1] 67)
              have hG : Bools (wr.alloc (.cells #[.string y.f0, .int .i64 y.f1] 67)) G n f2 := blk_alloc GG.out _
              have hP := blk_alloc PP.out (.cells #[.string y.f0, .int .i64 y.f1] 67)
              have y0 := (blk_cell (blk_new wr (.cells #[.string y.f0, .int .i64 y.f1] 67)) 0).trans rfl
              have y1 := (blk_cell (blk_new wr (.cells #[.string y.f0, .int .i64 y.f1] 67)) 1).trans rfl
              have z0 := (blk_cell hK 0).trans rfl
              have zp := (blk_cell hP 0).trans rfl
              obtain ⟨kb, hkb⟩ : ∃ kb, f2 i = kb := ⟨_, rfl⟩
              have zg := Bools.cell hG hlt
              rw [hkb] at zg
              have BAD := Aside0.mk (show inoBad d i y = ((!kb && decide ((i : Int) < (n : Int) - (q : Int))) || decide (y.f1 < 0) || decide ((y.f0.size : Int) < y.f1) || decide (1048576 < (y.f0.size : Int))) from by
                unfold Dk.inoBad; rw [← hkb, F2.out, ← HN.out, ← HQ.out])
              have HB' := Aside0.mk hB
              have HK' := Aside0.mk hK
              have HG' : Aside0 (Bools _ G n f2) := Aside0.mk hG
              have HP' := Aside0.mk hP
              have hi0 : (0 : Int) ≤ (i : Int) := by omega
              have hi1 : (i : Int) < (n : Int) := by omega
              clear hB hK hG hP hkb K GG PP HB
              cases kb
              all_goals go_wp2
              all_goals first
                | (go_roundg (n - i - 1)
                   case measure => omega
                   case rel =>
                    refine ⟨i + 1, by first | rfl | (simp; done), hlt, by omega, ⟨fun j hj => ?_⟩, HB', HK', HG', HP'⟩
                    rcases Nat.lt_or_ge j i with h | h
                    · exact hA.out j h
                    · rw [show j = i by omega, Y.out, BAD.out]
                      simp only [Bool.not_true, Bool.not_false, Bool.true_and, Bool.false_and, Bool.false_or, Bool.or_eq_false_iff, decide_eq_false_iff_not]
                      omega)
                | (go_ret
                   have e := HV.out (fun h => by
                    have := (valid_iff.1 h).2.2.2.2.1 i (by have := HN.out; omega)
                    rw [Y.out, BAD.out] at this
                    simp only [Bool.not_true, Bool.not_false, Bool.true_and, Bool.false_and, Bool.false_or, Bool.or_eq_false_iff, decide_eq_false_iff_not] at this
                    omega)
                   exact ⟨by rw [e]; rfl, HB'.out⟩)
            · have I6 := Aside0.mk (show ∀ j, j < n → inoBad d j (d.ino.getD j z67) = false from fun j hj => hA.out j (by omega))
              have z0 := (blk_cell K.out 0).trans rfl
              have z1 := (blk_cell K.out 1).trans rfl
              have z2 := (blk_cell K.out 2).trans rfl
              have z3 := (blk_cell K.out 3).trans rfl
              have DW := Aside0.mk (DD.out.below HB.out)
              rw [← HN.out] at DW
              have hsd := D2.out.2.1
              have CR := Aside0.mk (replay_calls _ d A3 c3 d.ops wr DW.out (Kd.C_below R3.out HB.out) l3 hsd (by omega) (by have := HN.out; omega) (by omega))
              clear hsd
              rw [← HN.out, ← HQ.out] at CR
              obtain ⟨rr, hrr⟩ : ∃ rr, rr = rep d.dur ((n : Int) - (q : Nat)) d.ops := ⟨_, rfl⟩
              rw [← hrr] at CR
              have HRR := Aside0.mk hrr
              clear hrr
              go_wp2_with fail
              refine CR.out.mono ?_
              rintro e w6 ⟨v', rfl, h1, h2⟩
              have HB6 := Aside0.mk (below_step HB.out h2)
              have K6 := Aside0.mk (blk_below K.out h2)
              have O6 := Aside0.mk h1
              clear z0 z1 z2 z3 h1 h2 CR HB K GG PP
              cases rr with
              | none =>
                have e := HV.out (fun h => by
                  have := (valid_iff.1 h).2.2.2.2.2
                  rw [← HN.out, ← HQ.out, ← HRR.out] at this
                  cases this)
                subst e
                clear HV HW
                simp only [repd]
                go_wp2
                go_ret
                exact ⟨rfl, HB6.out⟩
              | some l' =>
                obtain ⟨A', c', rfl, hlc, hrd⟩ := Kd.R_reads O6.out
                have z1 : w6.cell? ⟨D, 1, none⟩ = some (.slice A1 d.dir.length c1) := (blk_cell K6.out 1).trans rfl
                obtain ⟨be, hbe⟩ : ∃ be, be = decide (l' = d.dir) := ⟨_, rfl⟩
                have E := Aside0.mk (equal66_calls A' c' l' A1 c1 d.dir w6 hrd hlc (Kd.C_below R1.out HB6.out) l1)
                rw [← hbe] at E
                have HE := Aside0.mk hbe
                clear hbe hrd
                simp only [repd] at hlc ⊢
                go_wp2_with fail
                refine E.out.mono ?_
                rintro e w7 ⟨rfl, hb7⟩
                have HB7 := Aside0.mk (below_step HB6.out hb7)
                clear hb7 HB6 z1 E
                cases be with
                | false =>
                  have e := HV.out (fun h => by
                    have := (valid_iff.1 h).2.2.2.2.2
                    rw [← HN.out, ← HQ.out, ← HRR.out] at this
                    exact of_decide_eq_false HE.out.symm (Option.some.inj this))
                  subst e
                  clear HV HW
                  go_wp2
                  go_ret
                  exact ⟨rfl, HB7.out⟩
                | true =>
                  have e := HW.out (valid_iff.2 (by
                    rw [← HN.out, ← HQ.out, ← HRR.out]
                    exact ⟨D1.out, D2.out, by omega, H3.out.symm, I6.out, congrArg some (of_decide_eq_true HE.out.symm)⟩))
                  subst e
                  clear HV HW
                  go_wp2
                  go_ret
                  exact ⟨rfl, HB7.out⟩
end Go.Proofs.Ytnaddmkaakdhoaa.J

end
