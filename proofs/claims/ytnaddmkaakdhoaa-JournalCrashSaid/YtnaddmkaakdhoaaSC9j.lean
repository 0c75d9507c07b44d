/-
  Texts of this claim, joined, without what the claim does not use: XDR
-/
import Derived.Test.YtnaddmkaakdhoaaSC9i
section
namespace Go.Proofs.Ytnaddmkaakdhoaa.Dk
open J
def read (d : Dsk) (nm : ByteArray) : ByteArray × Int :=
  if valid d = true then (if has d.dir nm = true then ((d.ino.getD (ent d nm) z67).f0, 0) else (⟨#[]⟩, 11)) else (⟨#[]⟩, 9)
end Go.Proofs.Ytnaddmkaakdhoaa.Dk
namespace Go.Proofs.Ytnaddmkaakdhoaa.J
open Go.RowKit Go.Proofs.YtnaddmkaakdhoaaW.PrintWords Go.Proofs.YtnaddmkaakdhoaaW.PrintLast Go.Proofs.YtnaddmkaakdhoaaW.PrintMore
open Dk (Srt pos has valid app appAll applyAll Valid ent)
set_option linter.unusedVariables false
set_option linter.unusedSimpArgs false
set_option maxHeartbeats 8000000 in
set_option maxRecDepth 100000 in
theorem read_calls (a : Value) (d : Dsk) (nm : ByteArray) (w : World) (hd : DC w a d) (hs : Sml 100000 d) :
    Calls Try.prog 33 #[a, .string nm] w fun e w' => e = .returned (.tuple #[.string (Dk.read d nm).1, .int .i64 (Dk.read d nm).2]) ∧ Below w.heap.size w w' := by
  have DD := Aside0.mk hd
  obtain ⟨A0, c0, A1, c1, A2, c2, A3, c3, rfl, ⟨r0, l0⟩, ⟨r1, l1⟩, ⟨r2, l2⟩, ⟨r3, l3⟩⟩ := hd
  have R0 := Aside0.mk r0
  have R1 := Aside0.mk r1
  obtain ⟨res, hres⟩ : ∃ res, res = Dk.read d nm := ⟨_, rfl⟩
  rw [← hres]
  have RES := Aside0.mk hres
  obtain ⟨b, hb⟩ : ∃ b, b = valid d := ⟨_, rfl⟩
  have VC := Aside0.mk (fun w' hd' => validate_calls (.agg #[.slice A0 d.ino.length c0, .slice A1 d.dir.length c1, .slice A2 d.dur.length c2, .slice A3 d.ops.length c3]) d w' hd' hs)
  rw [← hb] at VC
  have VB := Aside0.mk hb
  clear hres hb r0 r1 r2 r3
  go_enter Try.func33, Try.ntmps33
  go_wp2_with fail
  have hB := (Below.refl w.heap.size w).alloc (Nat.le_refl _) (.cells #[.slice A0 d.ino.length c0, .slice A1 d.dir.length c1, .slice A2 d.dur.length c2, .slice A3 d.ops.length c3] 47)
  have hK := blk_new w (.cells #[.slice A0 d.ino.length c0, .slice A1 d.dir.length c1, .slice A2 d.dur.length c2, .slice A3 d.ops.length c3] 47)
  generalize w.alloc (.cells #[.slice A0 d.ino.length c0, .slice A1 d.dir.length c1, .slice A2 d.dur.length c2, .slice A3 d.ops.length c3] 47) = W0 at hB hK ⊢
  refine (VC.out W0 (DD.out.below hB)).mono ?_
  rintro e w1 ⟨rfl, hb1⟩
  have HB := Aside0.mk (below_step hB hb1)
  have HK := Aside0.mk (blk_below hK hb1)
  clear hB hK hb1 VC
  obtain ⟨D, hD⟩ : ∃ D, D = w.heap.size := ⟨_, rfl⟩
  rw [← hD] at HK ⊢
  clear hD
  cases b with
  | false =>
    have E := Aside0.mk (show res = (⟨#[]⟩, 9) from by rw [RES.out]; unfold Dk.read; rw [← VB.out]; rfl)
    go_wp2
    go_ret2
    rw [E.out]
    exact ⟨rfl, HB.out⟩
  | true =>
    have V := Aside0.mk (Dk.valid_of.1 VB.out.symm)
    have HS := Aside0.mk V.out.dir.2.1
    obtain ⟨bh, hbh⟩ : ∃ bh, bh = has d.dir nm := ⟨_, rfl⟩
    obtain ⟨p, hp⟩ : ∃ p, p = pos d.dir nm := ⟨_, rfl⟩
    have FC := Aside0.mk (fun w' hC => find_calls A1 c1 d.dir nm HS.out w' hC l1)
    rw [← hbh, ← hp] at FC
    have BH := Aside0.mk hbh
    have PP := Aside0.mk hp
    clear hbh hp
    have d1 : w1.cell? ⟨D, 1, none⟩ = some (.slice A1 d.dir.length c1) := (blk_cell HK.out 1).trans rfl
    go_wp2_with fail
    refine (FC.out w1 (Kd.C_below R1.out HB.out)).mono ?_
    rintro e w2 ⟨rfl, hb2⟩
    have HB2 := Aside0.mk (below_step HB.out hb2)
    have HK2 := Aside0.mk (blk_below HK.out hb2)
    clear hb2 d1 HB HK FC
    cases bh with
    | false =>
      have E := Aside0.mk (show res = (⟨#[]⟩, 11) from by rw [RES.out]; unfold Dk.read; rw [← VB.out, ← BH.out]; rfl)
      go_wp2
      go_ret2
      rw [E.out]
      exact ⟨rfl, HB2.out⟩
    | true =>
      have hpl : p < d.dir.length := by
        have := Dk.has_pos HS.out nm
        rw [← BH.out, ← PP.out] at this
        simp at this
        exact this.1
      obtain ⟨ad, ea, hx0, hx1⟩ := at_T69 R1.out (p : Int) (by omega) (by omega)
      subst ea
      obtain ⟨y, hy⟩ : ∃ y, y = rd_T69 d.dir (p : Int) := ⟨_, rfl⟩
      rw [← hy] at hx0 hx1
      have hyg : d.dir.getD p z69 = y := by rw [hy]; rfl
      obtain ⟨_, hy0, hy1⟩ := V.out.dir.1 y (by rw [← hyg, Dk.getD_eq hpl]; exact List.getElem_mem hpl)
      obtain ⟨j, hj⟩ : ∃ j : Nat, y.f1 = (j : Int) := ⟨y.f1.toNat, (Int.toNat_of_nonneg hy0).symm⟩
      have hjn : j < d.ino.length := by omega
      have EJ := Aside0.mk (show ent d nm = j from by unfold Dk.ent; rw [← PP.out, hyg, hj]; rfl)
      rw [hj] at hx1
      obtain ⟨ai, ei, x0, x1⟩ := at_T67 R0.out (j : Int) (by omega) (by omega)
      subst ei
      obtain ⟨x, hx⟩ : ∃ x, x = rd_T67 d.ino (j : Int) := ⟨_, rfl⟩
      rw [← hx] at x0 x1
      have E := Aside0.mk (show res = (x.f0, 0) from by rw [RES.out]; unfold Dk.read; rw [← VB.out, ← BH.out, EJ.out, hx]; rfl)
      replace hx1 : w2.cell? ⟨(ad.add (p * 2)).block, (ad.add (p * 2)).off + 1, none⟩ = some (.int .i64 (j : Nat)) := (HB2.out.cell (World.block_lt_of_cell? w _ hx1)).trans hx1
      replace x0 : w2.cell? (ai.add (j * 2)) = some (.string x.f0) := (HB2.out.cell (World.block_lt_of_cell? w _ x0)).trans x0
      have d0 : w2.cell? ⟨D, 0, none⟩ = some (.slice (some ai) d.ino.length c0) := (blk_cell HK2.out 0).trans rfl
      have d1 : w2.cell? ⟨D, 1, none⟩ = some (.slice (some ad) d.dir.length c1) := (blk_cell HK2.out 1).trans rfl
      have hp0 : (0 : Int) ≤ (p : Int) := by omega
      have hp1 : (p : Int) < (d.dir.length : Int) := by omega
      have hj0 : (0 : Int) ≤ (j : Int) := by omega
      have hj1 : (j : Int) < (d.ino.length : Int) := by omega
      clear hx0 x1 hx hy hyg hy0 hy1 hj
      go_wp2_with fail
      go_quiet (fail)
      go_wp2
      go_ret2
      rw [E.out]
      exact ⟨rfl, pw_below_drewN HB2.out _⟩
end Go.Proofs.Ytnaddmkaakdhoaa.J

end
