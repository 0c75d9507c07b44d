/-
  The walks of Go functions of this claim: each function's call comes to what the plain function of its name says.
  Written by a program of this claim's own (drive.py) over the kit's generator.
-/
import Derived.Test.YtnaddmkaakdhoaaJ0
import Derived.Test.YtnaddmkaakdhoaaJ26
import Derived.Test.YtnaddmkaakdhoaaJA
import Derived.Test.YtnaddmkaakdhoaaJC
import Derived.Test.YtnaddmkaakdhoaaJE37
import Derived.Test.YtnaddmkaakdhoaaX23b
namespace Go.Proofs.Ytnaddmkaakdhoaa.J
open Go.RowKit Go.Proofs.YtnaddmkaakdhoaaW.PrintWords Go.Proofs.YtnaddmkaakdhoaaW.PrintLast Go.Proofs.YtnaddmkaakdhoaaW.PrintMore
attribute [local go_sem] max2_int min2_int max_two min_two max_three min_three max_four min_four   -- for this text's walks alone
set_option linter.unusedVariables false
set_option linter.unusedSimpArgs false

attribute [local go_sem high] eqA37
/-! ### corporalaw40_JournalTorn: function 4 -/
mutual
def corporalaw40_JournalTorn.j0 : Nat → List (S37) → Int → Int → List (S37) → Int → Bool → Option (Bool)
  | 0, _, _, _, _, _, _ => none
  | k + 1, x7, x10, x11, x12, x13, x64 => if x64 = true then (some false) else (corporalaw40_JournalTorn.l0 k x7 x10 x11 x12 x13 (x12.length : Int) 0)
def corporalaw40_JournalTorn.l0 : Nat → List (S37) → Int → Int → List (S37) → Int → Int → Int → Option (Bool)
  | 0, _, _, _, _, _, _, _ => none
  | k + 1, x7, x10, x11, x12, x13, x66, x67 => if x67 < x66 then (if 0 ≤ x67 then (if x67 < (x12.length : Int) then (if x67 < (x7.length : Int) then (if (!(((rd_T37 x12 x67).f0) == ((rd_T37 x7 x67).f0)) || (!((((rd_T37 x12 x67).f1).toList) == (((rd_T37 x7 x67).f1).toList)))) = true then (some false) else (corporalaw40_JournalTorn.l0 k x7 x10 x11 x12 x13 x66 (wrap64 (x67 + 1)))) else (none)) else (none)) else (none)) else (if 0 ≤ (x12.length : Int) then (if (x12.length : Int) ≤ (x7.length : Int) then ((corporaref40_EncodeAll.f k (x7.take ((x12.length : Int) : Int).toNat)).bind fun bt123 => (if x13 = (bt123.1.size : Int) then (if (x12.length : Int) < (x7.length : Int) then (if 0 ≤ (wrap64 ((x12.length : Int) + 1)) then (if (wrap64 ((x12.length : Int) + 1)) ≤ (x7.length : Int) then ((corporaref40_EncodeAll.f k (x7.take ((wrap64 ((x12.length : Int) + 1)) : Int).toNat)).bind fun bt129 => (if (bt129.1.size : Int) > (wrap64 (x10 - x11)) then ((corporalaw40_known.f k).bind fun t131 => (some t131)) else (some false))) else (none)) else (none)) else ((corporalaw40_known.f k).bind fun t132 => (some t132))) else (some false))) else (none)) else (none))
end
def corporalaw40_JournalTorn.f (k : Nat) (l0 : List Int) (a1 : Int) (a2 : Int) : Option (Bool) := (corporamade_New.f l0).bind fun bt101 => ((corporalaw40_records.f k bt101.1 bt101.2 6).bind fun bt104 => ((corporaref40_EncodeAll.f k bt104.1).bind fun bt108 => ((corporamade_Mod.f a1 (wrap64 ((bt108.1.size : Int) + 1))).bind fun t110 => ((corporamade_Mod.f a2 (wrap64 ((mn t110 4) + 1))).bind fun t111 => (if 0 ≤ (wrap64 (t110 - t111)) then (if (wrap64 (t110 - t111)) ≤ (bt108.1.size : Int) then (if 0 ≤ t111 then (if t111 ≤ 4 then (if (bt108.1.extract 0 ((wrap64 (t110 - t111)) : Int).toNat).size + ((⟨#[0, 0, 0, 0]⟩ : ByteArray).extract 0 (t111 : Int).toNat).size ≤ 9223372036854775807 then ((journal_Scan.f ((bt108.1.extract 0 ((wrap64 (t110 - t111)) : Int).toNat) ++ ((⟨#[0, 0, 0, 0]⟩ : ByteArray).extract 0 (t111 : Int).toNat))).bind fun bt112 => (if (bt112.1.length : Int) > (bt104.1.length : Int) then (corporalaw40_JournalTorn.j0 k bt104.1 t110 t111 bt112.1 bt112.2.1 true) else (if bt112.2.2 = 2 then (corporalaw40_JournalTorn.j0 k bt104.1 t110 t111 bt112.1 bt112.2.1 true) else (corporalaw40_JournalTorn.j0 k bt104.1 t110 t111 bt112.1 bt112.2.1 (decide (bt112.2.1 > t110)))))) else (none)) else (none)) else (none)) else (none)) else (none))))))
theorem corporalaw40_JournalTorn.mono_l : ∀ k, (∀ y0 y1 y2 y3 y4 y5, LeO (corporalaw40_JournalTorn.j0 k y0 y1 y2 y3 y4 y5) (corporalaw40_JournalTorn.j0 (k + 1) y0 y1 y2 y3 y4 y5)) ∧ (∀ y0 y1 y2 y3 y4 y5 y6, LeO (corporalaw40_JournalTorn.l0 k y0 y1 y2 y3 y4 y5 y6) (corporalaw40_JournalTorn.l0 (k + 1) y0 y1 y2 y3 y4 y5 y6))
  | 0 => ⟨fun _ _ _ _ _ _ r h => by simp [corporalaw40_JournalTorn.j0] at h, fun _ _ _ _ _ _ _ r h => by simp [corporalaw40_JournalTorn.l0] at h⟩
  | k + 1 => by
    obtain ⟨ih0, ih1⟩ := corporalaw40_JournalTorn.mono_l k
    refine ⟨?_, ?_⟩
    · intro y0 y1 y2 y3 y4 y5
      unfold corporalaw40_JournalTorn.j0
      repeat' first
      | (with_reducible exact ih0 _ _ _ _ _ _)
      | (with_reducible exact ih1 _ _ _ _ _ _ _)
      | (with_reducible exact corporalaw40_known.mono _)
      | (with_reducible exact corporalaw40_records.mono _ _ _ _)
      | (with_reducible exact corporaref40_EncodeAll.mono _ _)
      | (with_reducible exact LeO.refl _)
      | (with_reducible exact LeO.none _)
      | (with_reducible refine LeO.ite ?_ ?_)
      | (with_reducible refine LeO.bind ?_ (fun _ => ?_))
      | exact ih0 _ _ _ _ _ _
      | exact ih1 _ _ _ _ _ _ _
      | exact corporalaw40_known.mono _
      | exact corporalaw40_records.mono _ _ _ _
      | exact corporaref40_EncodeAll.mono _ _
      | exact LeO.none _
      | refine LeO.ite ?_ ?_
      | refine LeO.bind ?_ (fun _ => ?_)
    · intro y0 y1 y2 y3 y4 y5 y6
      unfold corporalaw40_JournalTorn.l0
      repeat' first
      | (with_reducible exact ih0 _ _ _ _ _ _)
      | (with_reducible exact ih1 _ _ _ _ _ _ _)
      | (with_reducible exact corporalaw40_known.mono _)
      | (with_reducible exact corporalaw40_records.mono _ _ _ _)
      | (with_reducible exact corporaref40_EncodeAll.mono _ _)
      | (with_reducible exact LeO.refl _)
      | (with_reducible exact LeO.none _)
      | (with_reducible refine LeO.ite ?_ ?_)
      | (with_reducible refine LeO.bind ?_ (fun _ => ?_))
      | exact ih0 _ _ _ _ _ _
      | exact ih1 _ _ _ _ _ _ _
      | exact corporalaw40_known.mono _
      | exact corporalaw40_records.mono _ _ _ _
      | exact corporaref40_EncodeAll.mono _ _
      | exact LeO.none _
      | refine LeO.ite ?_ ?_
      | refine LeO.bind ?_ (fun _ => ?_)
theorem corporalaw40_JournalTorn.mono : ∀ a0 a1 a2 k, LeO (corporalaw40_JournalTorn.f k a0 a1 a2) (corporalaw40_JournalTorn.f (k + 1) a0 a1 a2) := by
  intro a0 a1 a2 k
  obtain ⟨ih0, ih1⟩ := corporalaw40_JournalTorn.mono_l k
  unfold corporalaw40_JournalTorn.f
  repeat' first
      | (with_reducible exact ih0 _ _ _ _ _ _)
      | (with_reducible exact ih1 _ _ _ _ _ _ _)
      | (with_reducible exact corporalaw40_known.mono _)
      | (with_reducible exact corporalaw40_records.mono _ _ _ _)
      | (with_reducible exact corporaref40_EncodeAll.mono _ _)
      | (with_reducible exact LeO.refl _)
      | (with_reducible exact LeO.none _)
      | (with_reducible refine LeO.ite ?_ ?_)
      | (with_reducible refine LeO.bind ?_ (fun _ => ?_))
      | exact ih0 _ _ _ _ _ _
      | exact ih1 _ _ _ _ _ _ _
      | exact corporalaw40_known.mono _
      | exact corporalaw40_records.mono _ _ _ _
      | exact corporaref40_EncodeAll.mono _ _
      | exact LeO.none _
      | refine LeO.ite ?_ ?_
      | refine LeO.bind ?_ (fun _ => ?_)
def corporalaw40_JournalTorn.T5 : Bool × List (List Nat × List Nat) := (true, [([], []), ([], []), ([], []), ([1, 2], [1, 2]), ([0, 3], [0, 3]), ([], []), ([5], [5]), ([4, 6], [4, 6]), ([7], [7]), ([8], [8]), ([9], [9]), ([9], [9]), ([9], [9]), ([10, 8, 0, 1, 2, 3, 4, 5, 6, 7, 8, 9, 10], [10]), ([11, 13, 0, 1, 2, 3, 4, 5, 6, 7, 8, 9, 10, 11, 13], [11]), ([12, 14, 0, 1, 2, 3, 4, 5, 6, 7, 8, 9, 10, 11, 12, 13, 14], [12])])
def corporalaw40_JournalTorn.B5 : List Nat := [0, 0, 0, 6, 15, 0, 32, 127, 255, 511, 1023, 1023, 1023, 2047, 12287, 32767]
theorem corporalaw40_JournalTorn.tab5 : rtab .any (opsOf Try.f4 5) = corporalaw40_JournalTorn.T5 := by kernel_rfl
theorem corporalaw40_JournalTorn.bits5 : waitsOk corporalaw40_JournalTorn.T5.2 corporalaw40_JournalTorn.B5 = true := by kernel_rfl
def corporalaw40_JournalTorn.T11 : Bool × List (List Nat × List Nat) := (true, [([], []), ([], []), ([0, 1], [0, 1]), ([2], [2]), ([], []), ([], []), ([4, 5], [4, 5]), ([6], [6]), ([3, 7], [3, 7])])
def corporalaw40_JournalTorn.B11 : List Nat := [0, 0, 3, 7, 0, 0, 48, 112, 255]
theorem corporalaw40_JournalTorn.tab11 : rtab .any (opsOf Try.f4 11) = corporalaw40_JournalTorn.T11 := by kernel_rfl
theorem corporalaw40_JournalTorn.bits11 : waitsOk corporalaw40_JournalTorn.T11.2 corporalaw40_JournalTorn.B11 = true := by kernel_rfl
set_option maxHeartbeats 8000000 in
set_option maxRecDepth 100000 in
theorem corporalaw40_JournalTorn.calls (k : Nat) (A0 : Option Addr) (c0 : Nat) (l0 : List Int) (a1 : Int) (a2 : Int) (r : Bool) (w : World) (hr0 : Kd.C (Kd.int .i64) w A0 l0.length l0) (hc0 : l0.length ≤ c0) (h : corporalaw40_JournalTorn.f k l0 a1 a2 = some r) :
    Calls Try.prog 4 #[.slice A0 l0.length c0, .int .i64 a1, .int .i64 a2] w fun e w' => e = .returned (.bool r) ∧ Below w.heap.size w w' := by
  have hu37 := Try.underlying37
  have HR0 := Aside0.mk hr0
  have HC0 := Aside0.mk hc0
  clear hr0 hc0
  have HB := Aside0.mk (Below.refl w.heap.size w)
  have H : ((corporamade_New.f l0).bind fun bt101 => ((corporalaw40_records.f k bt101.1 bt101.2 6).bind fun bt104 => ((corporaref40_EncodeAll.f k bt104.1).bind fun bt108 => ((corporamade_Mod.f a1 (wrap64 ((bt108.1.size : Int) + 1))).bind fun t110 => ((corporamade_Mod.f a2 (wrap64 ((mn t110 4) + 1))).bind fun t111 => (if 0 ≤ (wrap64 (t110 - t111)) then (if (wrap64 (t110 - t111)) ≤ (bt108.1.size : Int) then (if 0 ≤ t111 then (if t111 ≤ 4 then (if (bt108.1.extract 0 ((wrap64 (t110 - t111)) : Int).toNat).size + ((⟨#[0, 0, 0, 0]⟩ : ByteArray).extract 0 (t111 : Int).toNat).size ≤ 9223372036854775807 then ((journal_Scan.f ((bt108.1.extract 0 ((wrap64 (t110 - t111)) : Int).toNat) ++ ((⟨#[0, 0, 0, 0]⟩ : ByteArray).extract 0 (t111 : Int).toNat))).bind fun bt112 => (if (bt112.1.length : Int) > (bt104.1.length : Int) then (corporalaw40_JournalTorn.j0 k bt104.1 t110 t111 bt112.1 bt112.2.1 true) else (if bt112.2.2 = 2 then (corporalaw40_JournalTorn.j0 k bt104.1 t110 t111 bt112.1 bt112.2.1 true) else (corporalaw40_JournalTorn.j0 k bt104.1 t110 t111 bt112.1 bt112.2.1 (decide (bt112.2.1 > t110)))))) else (none)) else (none)) else (none)) else (none)) else (none))))))) = some r := h
  clear h
  replace H := Option.bind_eq_some_iff.mp H
  obtain ⟨⟨t101, t102⟩, A40, H⟩ := H
  replace H : ((corporalaw40_records.f k t101 t102 6).bind fun bt104 => ((corporaref40_EncodeAll.f k bt104.1).bind fun bt108 => ((corporamade_Mod.f a1 (wrap64 ((bt108.1.size : Int) + 1))).bind fun t110 => ((corporamade_Mod.f a2 (wrap64 ((mn t110 4) + 1))).bind fun t111 => (if 0 ≤ (wrap64 (t110 - t111)) then (if (wrap64 (t110 - t111)) ≤ (bt108.1.size : Int) then (if 0 ≤ t111 then (if t111 ≤ 4 then (if (bt108.1.extract 0 ((wrap64 (t110 - t111)) : Int).toNat).size + ((⟨#[0, 0, 0, 0]⟩ : ByteArray).extract 0 (t111 : Int).toNat).size ≤ 9223372036854775807 then ((journal_Scan.f ((bt108.1.extract 0 ((wrap64 (t110 - t111)) : Int).toNat) ++ ((⟨#[0, 0, 0, 0]⟩ : ByteArray).extract 0 (t111 : Int).toNat))).bind fun bt112 => (if (bt112.1.length : Int) > (bt104.1.length : Int) then (corporalaw40_JournalTorn.j0 k bt104.1 t110 t111 bt112.1 bt112.2.1 true) else (if bt112.2.2 = 2 then (corporalaw40_JournalTorn.j0 k bt104.1 t110 t111 bt112.1 bt112.2.1 true) else (corporalaw40_JournalTorn.j0 k bt104.1 t110 t111 bt112.1 bt112.2.1 (decide (bt112.2.1 > t110)))))) else (none)) else (none)) else (none)) else (none)) else (none)))))) = some r := H
  have A4 := Aside0.mk A40
  clear A40
  replace H := Option.bind_eq_some_iff.mp H
  obtain ⟨⟨t104, t107⟩, A50, H⟩ := H
  replace H : ((corporaref40_EncodeAll.f k t104).bind fun bt108 => ((corporamade_Mod.f a1 (wrap64 ((bt108.1.size : Int) + 1))).bind fun t110 => ((corporamade_Mod.f a2 (wrap64 ((mn t110 4) + 1))).bind fun t111 => (if 0 ≤ (wrap64 (t110 - t111)) then (if (wrap64 (t110 - t111)) ≤ (bt108.1.size : Int) then (if 0 ≤ t111 then (if t111 ≤ 4 then (if (bt108.1.extract 0 ((wrap64 (t110 - t111)) : Int).toNat).size + ((⟨#[0, 0, 0, 0]⟩ : ByteArray).extract 0 (t111 : Int).toNat).size ≤ 9223372036854775807 then ((journal_Scan.f ((bt108.1.extract 0 ((wrap64 (t110 - t111)) : Int).toNat) ++ ((⟨#[0, 0, 0, 0]⟩ : ByteArray).extract 0 (t111 : Int).toNat))).bind fun bt112 => (if (bt112.1.length : Int) > (t104.length : Int) then (corporalaw40_JournalTorn.j0 k t104 t110 t111 bt112.1 bt112.2.1 true) else (if bt112.2.2 = 2 then (corporalaw40_JournalTorn.j0 k t104 t110 t111 bt112.1 bt112.2.1 true) else (corporalaw40_JournalTorn.j0 k t104 t110 t111 bt112.1 bt112.2.1 (decide (bt112.2.1 > t110)))))) else (none)) else (none)) else (none)) else (none)) else (none))))) = some r := H
  have A5 := Aside0.mk A50
  clear A50
  replace H := Option.bind_eq_some_iff.mp H
  obtain ⟨⟨t108, t109⟩, A60, H⟩ := H
  replace H : ((corporamade_Mod.f a1 (wrap64 ((t108.size : Int) + 1))).bind fun t110 => ((corporamade_Mod.f a2 (wrap64 ((mn t110 4) + 1))).bind fun t111 => (if 0 ≤ (wrap64 (t110 - t111)) then (if (wrap64 (t110 - t111)) ≤ (t108.size : Int) then (if 0 ≤ t111 then (if t111 ≤ 4 then (if (t108.extract 0 ((wrap64 (t110 - t111)) : Int).toNat).size + ((⟨#[0, 0, 0, 0]⟩ : ByteArray).extract 0 (t111 : Int).toNat).size ≤ 9223372036854775807 then ((journal_Scan.f ((t108.extract 0 ((wrap64 (t110 - t111)) : Int).toNat) ++ ((⟨#[0, 0, 0, 0]⟩ : ByteArray).extract 0 (t111 : Int).toNat))).bind fun bt112 => (if (bt112.1.length : Int) > (t104.length : Int) then (corporalaw40_JournalTorn.j0 k t104 t110 t111 bt112.1 bt112.2.1 true) else (if bt112.2.2 = 2 then (corporalaw40_JournalTorn.j0 k t104 t110 t111 bt112.1 bt112.2.1 true) else (corporalaw40_JournalTorn.j0 k t104 t110 t111 bt112.1 bt112.2.1 (decide (bt112.2.1 > t110)))))) else (none)) else (none)) else (none)) else (none)) else (none)))) = some r := H
  have A6 := Aside0.mk A60
  clear A60
  replace H := Option.bind_eq_some_iff.mp H
  obtain ⟨t110, A70, H⟩ := H
  replace H : ((corporamade_Mod.f a2 (wrap64 ((mn t110 4) + 1))).bind fun t111 => (if 0 ≤ (wrap64 (t110 - t111)) then (if (wrap64 (t110 - t111)) ≤ (t108.size : Int) then (if 0 ≤ t111 then (if t111 ≤ 4 then (if (t108.extract 0 ((wrap64 (t110 - t111)) : Int).toNat).size + ((⟨#[0, 0, 0, 0]⟩ : ByteArray).extract 0 (t111 : Int).toNat).size ≤ 9223372036854775807 then ((journal_Scan.f ((t108.extract 0 ((wrap64 (t110 - t111)) : Int).toNat) ++ ((⟨#[0, 0, 0, 0]⟩ : ByteArray).extract 0 (t111 : Int).toNat))).bind fun bt112 => (if (bt112.1.length : Int) > (t104.length : Int) then (corporalaw40_JournalTorn.j0 k t104 t110 t111 bt112.1 bt112.2.1 true) else (if bt112.2.2 = 2 then (corporalaw40_JournalTorn.j0 k t104 t110 t111 bt112.1 bt112.2.1 true) else (corporalaw40_JournalTorn.j0 k t104 t110 t111 bt112.1 bt112.2.1 (decide (bt112.2.1 > t110)))))) else (none)) else (none)) else (none)) else (none)) else (none))) = some r := H
  have A7 := Aside0.mk A70
  clear A70
  obtain ⟨ji8, hji8⟩ : ∃ j_ : Int, (mn t110 4) = j_ := ⟨_, rfl⟩
  replace H : ((corporamade_Mod.f a2 (wrap64 ((ji8) + 1))).bind fun t111 => (if 0 ≤ (wrap64 (t110 - t111)) then (if (wrap64 (t110 - t111)) ≤ (t108.size : Int) then (if 0 ≤ t111 then (if t111 ≤ 4 then (if (t108.extract 0 ((wrap64 (t110 - t111)) : Int).toNat).size + ((⟨#[0, 0, 0, 0]⟩ : ByteArray).extract 0 (t111 : Int).toNat).size ≤ 9223372036854775807 then ((journal_Scan.f ((t108.extract 0 ((wrap64 (t110 - t111)) : Int).toNat) ++ ((⟨#[0, 0, 0, 0]⟩ : ByteArray).extract 0 (t111 : Int).toNat))).bind fun bt112 => (if (bt112.1.length : Int) > (t104.length : Int) then (corporalaw40_JournalTorn.j0 k t104 t110 t111 bt112.1 bt112.2.1 true) else (if bt112.2.2 = 2 then (corporalaw40_JournalTorn.j0 k t104 t110 t111 bt112.1 bt112.2.1 true) else (corporalaw40_JournalTorn.j0 k t104 t110 t111 bt112.1 bt112.2.1 (decide (bt112.2.1 > t110)))))) else (none)) else (none)) else (none)) else (none)) else (none))) = some r := by first | (rw [hji8] at H; exact H) | (simp only [hji8] at H ⊢; exact H)
  (try rw [hji8] at A4)
  (try rw [hji8] at A5)
  (try rw [hji8] at A6)
  (try rw [hji8] at A7)
  (try (have hji8h : ji8 ≤ 4 := by (rw [← hji8]; unfold mn; (repeat' split) <;> omega)))
  (try (have hji8g : ji8 ≤ 64 := by omega))
  have hji8_ : (if 4 < t110 then 4 else t110) = ji8 := hji8
  replace H := Option.bind_eq_some_iff.mp H
  obtain ⟨t111, A90, H⟩ := H
  replace H : (if 0 ≤ (wrap64 (t110 - t111)) then (if (wrap64 (t110 - t111)) ≤ (t108.size : Int) then (if 0 ≤ t111 then (if t111 ≤ 4 then (if (t108.extract 0 ((wrap64 (t110 - t111)) : Int).toNat).size + ((⟨#[0, 0, 0, 0]⟩ : ByteArray).extract 0 (t111 : Int).toNat).size ≤ 9223372036854775807 then ((journal_Scan.f ((t108.extract 0 ((wrap64 (t110 - t111)) : Int).toNat) ++ ((⟨#[0, 0, 0, 0]⟩ : ByteArray).extract 0 (t111 : Int).toNat))).bind fun bt112 => (if (bt112.1.length : Int) > (t104.length : Int) then (corporalaw40_JournalTorn.j0 k t104 t110 t111 bt112.1 bt112.2.1 true) else (if bt112.2.2 = 2 then (corporalaw40_JournalTorn.j0 k t104 t110 t111 bt112.1 bt112.2.1 true) else (corporalaw40_JournalTorn.j0 k t104 t110 t111 bt112.1 bt112.2.1 (decide (bt112.2.1 > t110)))))) else (none)) else (none)) else (none)) else (none)) else (none)) = some r := H
  have A9 := Aside0.mk A90
  clear A90
  obtain ⟨ji10, hji10⟩ : ∃ j_ : Int, (wrap64 (t110 - t111)) = j_ := ⟨_, rfl⟩
  replace H : (if 0 ≤ (ji10) then (if (ji10) ≤ (t108.size : Int) then (if 0 ≤ t111 then (if t111 ≤ 4 then (if (t108.extract 0 ((ji10) : Int).toNat).size + ((⟨#[0, 0, 0, 0]⟩ : ByteArray).extract 0 (t111 : Int).toNat).size ≤ 9223372036854775807 then ((journal_Scan.f ((t108.extract 0 ((ji10) : Int).toNat) ++ ((⟨#[0, 0, 0, 0]⟩ : ByteArray).extract 0 (t111 : Int).toNat))).bind fun bt112 => (if (bt112.1.length : Int) > (t104.length : Int) then (corporalaw40_JournalTorn.j0 k t104 t110 t111 bt112.1 bt112.2.1 true) else (if bt112.2.2 = 2 then (corporalaw40_JournalTorn.j0 k t104 t110 t111 bt112.1 bt112.2.1 true) else (corporalaw40_JournalTorn.j0 k t104 t110 t111 bt112.1 bt112.2.1 (decide (bt112.2.1 > t110)))))) else (none)) else (none)) else (none)) else (none)) else (none)) = some r := by first | (rw [hji10] at H; exact H) | (simp only [hji10] at H ⊢; exact H)
  (try rw [hji10] at A4)
  (try rw [hji10] at A5)
  (try rw [hji10] at A6)
  (try rw [hji10] at A7)
  (try rw [hji10] at A9)
  have hji10w : (IntKind.i64.wrap (t110 - t111)) = ji10 := (i64_w _).trans hji10
  by_cases c11 : 0 ≤ (ji10)
  · rw [if_pos c11] at H
    have c11b0 := eq_true c11
    have c11b1 : decide (0 ≤ (ji10)) = true := decide_eq_true c11
    clear c11
    by_cases c12 : (ji10) ≤ (t108.size : Int)
    · rw [if_pos c12] at H
      have c12b0 := eq_true c12
      have c12b1 : decide ((ji10) ≤ (t108.size : Int)) = true := decide_eq_true c12
      clear c12
      by_cases c13 : 0 ≤ t111
      · rw [if_pos c13] at H
        have c13b0 := eq_true c13
        have c13b1 : decide (0 ≤ t111) = true := decide_eq_true c13
        clear c13
        by_cases c14 : t111 ≤ 4
        · rw [if_pos c14] at H
          have c14b0 := eq_true c14
          have c14b1 : decide (t111 ≤ 4) = true := decide_eq_true c14
          clear c14
          by_cases c15 : (t108.extract 0 ((ji10) : Int).toNat).size + ((⟨#[0, 0, 0, 0]⟩ : ByteArray).extract 0 (t111 : Int).toNat).size ≤ 9223372036854775807
          · rw [if_pos c15] at H
            have c15b0 := eq_true c15
            have c15b1 : decide ((t108.extract 0 ((ji10) : Int).toNat).size + ((⟨#[0, 0, 0, 0]⟩ : ByteArray).extract 0 (t111 : Int).toNat).size ≤ 9223372036854775807) = true := decide_eq_true c15
            try have c15b2 : (9223372036854775807 < (t108.extract 0 ((ji10) : Int).toNat).size + ((⟨#[0, 0, 0, 0]⟩ : ByteArray).extract 0 (t111 : Int).toNat).size) = False := eq_false (Nat.not_lt.2 c15)
            try have c15b3 : (9223372036854775807 < ((ji10)).toNat + (t111).toNat) = False := eq_false (by have z_ := c15; have h0_ : (ji10) ≤ (t108.size : Int) := of_decide_eq_true (by first | (with_reducible assumption) | assumption); have h1_ : t111 ≤ ((⟨#[0, 0, 0, 0]⟩ : ByteArray).size : Int) := of_decide_eq_true (by first | (with_reducible assumption) | assumption); simp only [ByteArray.size_append, ByteArray.size_extract] at z_; first | omega | (simp [ByteArray.size] at *; omega))
            try (have c15e := c15; simp only [ByteArray.size_extract, ByteArray.size_append, Nat.min_self] at c15e; have c15f := decide_eq_true c15e; have c15g := eq_true c15e)
            replace H := Option.bind_eq_some_iff.mp H
            obtain ⟨⟨t112, t113, t114⟩, A160, H⟩ := H
            replace H : (if (t112.length : Int) > (t104.length : Int) then (corporalaw40_JournalTorn.j0 k t104 t110 t111 t112 t113 true) else (if t114 = 2 then (corporalaw40_JournalTorn.j0 k t104 t110 t111 t112 t113 true) else (corporalaw40_JournalTorn.j0 k t104 t110 t111 t112 t113 (decide (t113 > t110))))) = some r := H
            have A16 := Aside0.mk A160
            clear A160
            have HC17 := Aside0.mk H
            clear H
            go_enter Try.func4, Try.ntmps4
            try go_wp2_with (first | ((with_reducible refine gate_callee (f := 22) rfl ?_); refine goesL_ (some 21) rfl rfl Try.func22 (by kernel_rfl) rfl #[.slice A0 l0.length c0] rfl (by (try simp only [List.map_toArray, List.map_cons, List.map_nil]); first | done | rfl | (simp only [List.length_drop, List.length_take]; rfl)) ?_; (with_reducible refine (corporamade_New.calls _ _ l0 t101 t102 w _ ?side1 ?side2 ?side3 A4.out).mono ?_); (case side1 => repeat (first | (with_reducible first | exact HB.out | apply below_alloc | apply pw_below_drewN | apply below_drew1) | exact HB.out)); (case side2 => exact HR0.out); (case side3 => exact HC0.out); rintro e w18 ⟨g103, rfl, hi, hb, hb2⟩; refine ⟨_, rfl, ?_⟩; have n0_ := Aside0.mk (hb); have n1_ := Aside0.mk (hi); clear HB; have HB := n0_; have HI103 := n1_; clear n0_ n1_; (try clear hb); (try clear hb2); (try clear hk); (try clear hi)) | ((with_reducible refine gate_callee (f := 21) rfl ?_); refine goesL_ (some 22) rfl rfl Try.func21 (by kernel_rfl) rfl #[.pointer (some ⟨g103, 0, none⟩), .int .i64 6] rfl (by (try simp only [List.map_toArray, List.map_cons, List.map_nil]); first | done | rfl | (simp only [List.length_drop, List.length_take]; rfl)) ?_; (with_reducible refine (corporalaw40_records.calls k g103 t101 t102 6 t104 t107 w _ ?side1 ?side2 A5.out).mono ?_); (case side1 => repeat (first | (with_reducible first | exact HI103.out | apply IsS74.alloc | apply IsS74.drewN | apply IsS74.drew | apply IsS74.set_1) | exact HI103.out)); (case side2 => repeat (first | (with_reducible first | exact HB.out | apply below_alloc | apply pw_below_drewN | apply below_drew1 | refine below_set ?_ (IsS74.ge HI103.out)) | exact HB.out)); rintro e w19 ⟨v105, rfl, ho0, hi, hb, hk⟩; refine ⟨_, rfl, ?_⟩; have n0_ := Aside0.mk (Kd.R_lower ho0 (below_size (by repeat (first | (with_reducible first | exact HB.out | apply below_alloc | apply pw_below_drewN | apply below_drew1 | refine below_set ?_ (IsS74.ge HI103.out)) | exact HB.out)))); have n1_ := Aside0.mk (hb); have n2_ := Aside0.mk (hi); clear HB; clear HI103; have HO106 := n0_; have HB := n1_; have HI103 := n2_; clear n0_ n1_ n2_; (try clear hb); (try clear hb2); (try clear hk); (try clear hi); (try clear ho0); obtain ⟨Ao20, co20, eo20⟩ := Kd.R_slice HO106.out; subst eo20) | ((with_reducible refine gate_callee (f := 20) rfl ?_); refine goesL_ (some 25) rfl rfl Try.func20 (by kernel_rfl) rfl #[.slice Ao20 t104.length co20] rfl (by (try simp only [List.map_toArray, List.map_cons, List.map_nil]); first | done | rfl | (simp only [List.length_drop, List.length_take]; rfl)) ?_; (with_reducible refine (corporaref40_EncodeAll.calls k _ _ t104 t108 t109 _ ?side1 ?side2 A6.out).mono ?_); (case side1 => repeat (first | exact (Kd.R_reads' HO106.out).2.2 | (with_reducible refine Kd.C_alloc ?_ _) | (with_reducible refine Kd.C_drewN ?_ _) | (with_reducible refine Kd.C_drew ?_))); (case side2 => exact (Kd.R_reads' HO106.out).2.1); rintro e w21 ⟨rfl, hb⟩; refine ⟨_, rfl, ?_⟩; have n0_ := Aside0.mk (Kd.R_below (by (with_reducible repeat (first | apply Kd.R_alloc | apply Kd.R_drewN | apply Kd.R_drew)); exact HO106.out) hb); have n1_ := Aside0.mk (IsS74.below (by repeat (first | (with_reducible first | exact HI103.out | apply IsS74.alloc | apply IsS74.drewN | apply IsS74.drew | apply IsS74.set_1) | exact HI103.out)) hb); have n2_ := Aside0.mk (below_step (by repeat (first | (with_reducible first | exact HB.out | apply below_alloc | apply pw_below_drewN | apply below_drew1 | refine below_set ?_ (IsS74.ge HI103.out)) | exact HB.out)) hb); clear HO106; clear HI103; clear HB; have HO106 := n0_; have HI103 := n1_; have HB := n2_; clear n0_ n1_ n2_; (try clear hb); (try clear hb2); (try clear hk); (try clear hi)) | ((with_reducible refine gate_callee (f := 27) rfl ?_); refine goesL_ (some 32) rfl rfl Try.func27 (by kernel_rfl) rfl #[.int .i64 a1, .int .i64 (wrap64 ((t108.size : Int) + 1))] rfl (by (try simp only [List.map_toArray, List.map_cons, List.map_nil]); first | done | rfl | (simp only [List.length_drop, List.length_take]; rfl)) ?_; (with_reducible refine (corporamade_Mod.calls a1 (wrap64 ((t108.size : Int) + 1)) t110 _ A7.out).mono ?_); rintro e w' ⟨rfl, ⟨nd, rfl⟩⟩; refine ⟨_, rfl, ?_⟩) | ((with_reducible refine gate_callee (f := 27) rfl ?_); refine goesL_ (some 37) rfl rfl Try.func27 (by kernel_rfl) rfl #[.int .i64 a2, .int .i64 (wrap64 ((ji8) + 1))] rfl (by (try simp only [List.map_toArray, List.map_cons, List.map_nil]); first | done | (simp only [hji8]; rfl) | rfl | (simp only [List.length_drop, List.length_take]; rfl)) ?_; (with_reducible refine (corporamade_Mod.calls a2 (wrap64 ((ji8) + 1)) t111 _ A9.out).mono ?_); rintro e w' ⟨rfl, ⟨nd, rfl⟩⟩; refine ⟨_, rfl, ?_⟩))
            (try (rw [drewN_self w21]; generalize hq_ : World.drewN w21 _ = w21; have n0_ : Aside0 (Kd.R k37 37 w21 w.heap.size (fun _ => True) (.slice Ao20 t104.length co20) t104) := ⟨by rw [← hq_]; exact (by (with_reducible repeat (first | apply Kd.R_alloc | apply Kd.R_drewN | apply Kd.R_drew)); exact HO106.out)⟩; have n1_ : Aside0 (IsS74 w w21 g103 t101 t107) := ⟨by rw [← hq_]; exact (by repeat (first | (with_reducible first | exact HI103.out | apply IsS74.alloc | apply IsS74.drewN | apply IsS74.drew | apply IsS74.set_1) | exact HI103.out))⟩; have n2_ : Aside0 (Below w.heap.size w w21) := ⟨by rw [← hq_]; exact (by repeat (first | (with_reducible first | exact HB.out | apply below_alloc | apply pw_below_drewN | apply below_drew1 | refine below_set ?_ (IsS74.ge HI103.out)) | exact HB.out))⟩; clear HO106 HI103 HB hq_; have HO106 := n0_; have HI103 := n1_; have HB := n2_; clear n0_ n1_ n2_))
            have n0_ := Aside0.mk (Kd.R_drew HO106.out)
            have n1_ := Aside0.mk (IsS74.drew HI103.out)
            have n2_ := Aside0.mk (below_drew1 HB.out)
            clear HO106
            clear HI103
            clear HB
            have HO106 := n0_
            have HI103 := n1_
            have HB := n2_
            clear n0_ n1_ n2_
            refine start_ (n := 16) (S := fun w' => True) (ds := []) #[false, false, false, false, false, false, false, false, false, false, false, false, false, false, false, false] (by kernel_rfl) rfl rfl trivial (fun hHeld => ?_); refine with_tabW corporalaw40_JournalTorn.tab5 corporalaw40_JournalTorn.bits5 (fun HT_ HW_ => ?_)
            generalize w21.drew = w22 at HO106 HI103 HB hHeld ⊢
            refine pure_ (i := 0) (N := some 39) (v := ?_) (a' := ?_) #[true, false, false, false, false, false, false, false, false, false, false, false, false, false, false, false] rfl rfl (any_of HT_.out (by kernel_rfl)) (fun _ _ _ h => h) (Or.inl ⟨by rfl, ?_⟩) ?_ ?_
            rotate_left
            · intro w'
              go_simp
              with_reducible rfl
            rotate_left
            · simp only [Act.put, List.setIfInBounds_toArray, List.set_cons_zero, List.set_cons_succ, i64_w, i32_w]
              rfl
            refine pure_ (i := 1) (N := some 40) (v := ?_) (a' := ?_) #[true, true, false, false, false, false, false, false, false, false, false, false, false, false, false, false] rfl rfl (any_of HT_.out (by kernel_rfl)) (fun _ _ _ h => h) (Or.inl ⟨by rfl, ?_⟩) ?_ ?_
            rotate_left
            · intro w'
              go_simp
              with_reducible rfl
            rotate_left
            · simp only [Act.put, List.setIfInBounds_toArray, List.set_cons_zero, List.set_cons_succ, i64_w, i32_w]
              rfl
            refine pure_ (i := 2) (N := some 41) (v := ?_) (a' := ?_) #[true, true, true, false, false, false, false, false, false, false, false, false, false, false, false, false] rfl rfl (any_of HT_.out (by kernel_rfl)) (fun _ _ _ h => h) (Or.inl ⟨by rfl, ?_⟩) ?_ ?_
            rotate_left
            · intro w'
              go_simp
              with_reducible rfl
            rotate_left
            · simp only [Act.put, List.setIfInBounds_toArray, List.set_cons_zero, List.set_cons_succ, i64_w, i32_w]
              rfl
            refine pure_ (i := 3) (N := some 42) (v := ?_) (a' := ?_) #[true, true, true, true, false, false, false, false, false, false, false, false, false, false, false, false] rfl rfl (any_of HT_.out (by kernel_rfl)) (fun _ _ _ h => h) (Or.inl ⟨by rfl, ?_⟩) ?_ ?_
            rotate_left
            · intro w'
              go_simp
              with_reducible rfl
            rotate_left
            · simp only [Act.put, List.setIfInBounds_toArray, List.set_cons_zero, List.set_cons_succ, i64_w, i32_w]
              rfl
            refine pure_ (i := 4) (N := some 43) (v := ?_) (a' := ?_) #[true, true, true, true, true, false, false, false, false, false, false, false, false, false, false, false] rfl rfl (any_of HT_.out (by kernel_rfl)) (fun _ _ _ h => h) (Or.inl ⟨by rfl, ?_⟩) ?_ ?_
            rotate_left
            · intro w'
              go_simp
              with_reducible rfl
            rotate_left
            · simp only [Act.put, List.setIfInBounds_toArray, List.set_cons_zero, List.set_cons_succ, i64_w, i32_w]
              rfl
            refine pure_ (i := 5) (N := some 44) (v := ?_) (a' := ?_) #[true, true, true, true, true, true, false, false, false, false, false, false, false, false, false, false] rfl rfl (any_of HT_.out (by kernel_rfl)) (fun _ _ _ h => h) (Or.inl ⟨by rfl, ?_⟩) ?_ ?_
            rotate_left
            · intro w'
              go_simp
              with_reducible rfl
            rotate_left
            · simp only [Act.put, List.setIfInBounds_toArray, List.set_cons_zero, List.set_cons_succ, i64_w, i32_w]
              rfl
            refine pure_ (i := 6) (N := some 45) (v := ?_) (a' := ?_) #[true, true, true, true, true, true, true, false, false, false, false, false, false, false, false, false] rfl rfl (any_of HT_.out (by kernel_rfl)) (fun _ _ _ h => h) (Or.inl ⟨by rfl, ?_⟩) ?_ ?_
            rotate_left
            · intro w'
              go_simp
              with_reducible rfl
            rotate_left
            · simp only [Act.put, List.setIfInBounds_toArray, List.set_cons_zero, List.set_cons_succ, i64_w, i32_w]
              rfl
            refine pure_ (i := 7) (N := some 46) (v := ?_) (a' := ?_) #[true, true, true, true, true, true, true, true, false, false, false, false, false, false, false, false] rfl rfl (any_of HT_.out (by kernel_rfl)) (fun _ _ _ h => h) (Or.inl ⟨by rfl, ?_⟩) ?_ ?_
            rotate_left
            · intro w'
              go_simp
              with_reducible rfl
            rotate_left
            · simp only [Act.put, List.setIfInBounds_toArray, List.set_cons_zero, List.set_cons_succ, i64_w, i32_w]
              rfl
            refine one_ (i := 8) (N := some 47) #[true, true, true, true, true, true, true, true, true, false, false, false, false, false, false, false] rfl rfl (one_of HT_.out (by kernel_rfl)) (by decide) (fun K hK => ?_)
            refine goes_ Try.func23 (by kernel_rfl) rfl #[.string ((t108.extract 0 ((ji10) : Int).toNat) ++ ((⟨#[0, 0, 0, 0]⟩ : ByteArray).extract 0 (t111 : Int).toNat))] (by rfl) rfl rfl (by (try simp only [List.map_toArray, List.map_cons, List.map_nil]); first | done | (simp only [hji10]; rfl) | rfl | (simp only [List.length_drop, List.length_take]; rfl)) ?_
            with_reducible refine (journal_Scan.calls ((t108.extract 0 ((ji10) : Int).toNat) ++ ((⟨#[0, 0, 0, 0]⟩ : ByteArray).extract 0 (t111 : Int).toNat)) t112 t113 t114 _ A16.out).mono ?_
            rintro e w23 ⟨v115, rfl, ho0, hb⟩
            refine ⟨_, rfl, ?_⟩
            have n0_ := Aside0.mk (Kd.R_elder' (by (with_reducible repeat (first | apply Kd.R_alloc | apply Kd.R_drewN | apply Kd.R_drew)); exact HO106.out) (Kd.R_base ho0) hb)
            have n1_ := Aside0.mk (Kd.R_lower (Kd.R_new' ho0 (Kd.R_lt (by (with_reducible repeat (first | apply Kd.R_alloc | apply Kd.R_drewN | apply Kd.R_drew)); exact HO106.out))) (below_size (by repeat (first | (with_reducible first | exact HB.out | apply below_alloc | apply pw_below_drewN | apply below_drew1 | refine below_set ?_ (IsS74.ge HI103.out)) | exact HB.out))))
            have n2_ := Aside0.mk (IsS74.below (by repeat (first | (with_reducible first | exact HI103.out | apply IsS74.alloc | apply IsS74.drewN | apply IsS74.drew | apply IsS74.set_1) | exact HI103.out)) hb)
            have n3_ := Aside0.mk (below_step (by repeat (first | (with_reducible first | exact HB.out | apply below_alloc | apply pw_below_drewN | apply below_drew1 | refine below_set ?_ (IsS74.ge HI103.out)) | exact HB.out)) hb)
            clear HO106
            clear HI103
            clear HB
            have HO106 := n0_
            have HO116 := n1_
            have HI103 := n2_
            have HB := n3_
            clear n0_ n1_ n2_ n3_
            (try clear hb)
            (try clear hb2)
            (try clear hk)
            (try clear hi)
            (try clear ho0)
            refine hK.out _ _ trivial (fun hHeld => ?_)
            clear hK K
            refine norm_ (a' := ?_) ?_ ?_
            rotate_left
            · show Act.put _ (some 47) _ = _
              simp only [Act.put, List.setIfInBounds_toArray, List.set_cons_zero, List.set_cons_succ, i64_w, i32_w]
              rfl
            refine pure_ (i := 9) (N := some 38) (v := ?_) (a' := ?_) #[true, true, true, true, true, true, true, true, true, true, false, false, false, false, false, false] rfl rfl (any_of HT_.out (by kernel_rfl)) (fun _ _ _ h => h) (Or.inl ⟨by rfl, ?_⟩) ?_ ?_
            rotate_left
            · intro w'
              go_simp
              with_reducible rfl
            rotate_left
            · simp only [Act.put, List.setIfInBounds_toArray, List.set_cons_zero, List.set_cons_succ, i64_w, i32_w]
              rfl
            refine pure_ (i := 10) (N := some 48) (v := ?_) (a' := ?_) #[true, true, true, true, true, true, true, true, true, true, true, false, false, false, false, false] rfl rfl (any_of HT_.out (by kernel_rfl)) (fun _ _ _ h => h) (Or.inl ⟨by rfl, ?_⟩) ?_ ?_
            rotate_left
            · intro w'
              go_simp
              with_reducible rfl
            rotate_left
            · simp only [Act.put, List.setIfInBounds_toArray, List.set_cons_zero, List.set_cons_succ, i64_w, i32_w]
              rfl
            refine pure_ (i := 11) (N := some 49) (v := ?_) (a' := ?_) #[true, true, true, true, true, true, true, true, true, true, true, true, false, false, false, false] rfl rfl (any_of HT_.out (by kernel_rfl)) (fun _ _ _ h => h) (Or.inl ⟨by rfl, ?_⟩) ?_ ?_
            rotate_left
            · intro w'
              go_simp
              with_reducible rfl
            rotate_left
            · simp only [Act.put, List.setIfInBounds_toArray, List.set_cons_zero, List.set_cons_succ, i64_w, i32_w]
              rfl
            refine pure_ (i := 12) (N := some 50) (v := ?_) (a' := ?_) #[true, true, true, true, true, true, true, true, true, true, true, true, true, false, false, false] rfl rfl (any_of HT_.out (by kernel_rfl)) (fun _ _ _ h => h) (Or.inl ⟨by rfl, ?_⟩) ?_ ?_
            rotate_left
            · intro w'
              go_simp
              with_reducible rfl
            rotate_left
            · simp only [Act.put, List.setIfInBounds_toArray, List.set_cons_zero, List.set_cons_succ, i64_w, i32_w]
              rfl
            refine pure_ (i := 13) (N := some 12) (v := ?_) (a' := ?_) #[true, true, true, true, true, true, true, true, true, true, true, true, true, true, false, false] rfl rfl (any_of HT_.out (by kernel_rfl)) (fun _ _ _ h => h) (Or.inl ⟨by rfl, ?_⟩) ?_ ?_
            rotate_left
            · intro w'
              go_simp
              with_reducible rfl
            rotate_left
            · simp only [Act.put, List.setIfInBounds_toArray, List.set_cons_zero, List.set_cons_succ, i64_w, i32_w]
              rfl
            refine pure_ (i := 14) (N := some 13) (v := ?_) (a' := ?_) #[true, true, true, true, true, true, true, true, true, true, true, true, true, true, true, false] rfl rfl (any_of HT_.out (by kernel_rfl)) (fun _ _ _ h => h) (Or.inl ⟨by rfl, ?_⟩) ?_ ?_
            rotate_left
            · intro w'
              go_simp
              with_reducible rfl
            rotate_left
            · simp only [Act.put, List.setIfInBounds_toArray, List.set_cons_zero, List.set_cons_succ, i64_w, i32_w]
              rfl
            refine pure_ (i := 15) (N := some 14) (v := ?_) (a' := ?_) #[true, true, true, true, true, true, true, true, true, true, true, true, true, true, true, true] rfl rfl (any_of HT_.out (by kernel_rfl)) (fun _ _ _ h => h) (Or.inl ⟨by rfl, ?_⟩) ?_ ?_
            rotate_left
            · intro w'
              go_simp
              with_reducible rfl
            rotate_left
            · simp only [Act.put, List.setIfInBounds_toArray, List.set_cons_zero, List.set_cons_succ, i64_w, i32_w]
              rfl
            refine done_ (done_of HT_.out (by kernel_rfl)) ?_
            go_upto_region 6 with (fail)
            go_cut [64] (fun v64 wc => ∃ (kq : Nat) (x64_16 : Bool), v64 = .bool x64_16 ∧ Aside0 (corporalaw40_JournalTorn.j0 kq t104 t110 t111 t112 t113 x64_16 = some r) ∧ Aside0 (kq ≤ k) ∧ Aside0 (Kd.R k37 37 wc w.heap.size (fun k_ => some k_ ≠ (v115 : Value).ownBlock) (.slice Ao20 t104.length co20) t104) ∧ Aside0 (Kd.R k37 37 wc w.heap.size (fun k_ => some k_ ≠ ((.slice Ao20 t104.length co20) : Value).ownBlock) v115 t112) ∧ Aside0 (Below w.heap.size w wc))
            case first =>
              have H := HC17.out
              clear HC17
              by_cases c24 : (t112.length : Int) > (t104.length : Int)
              · rw [if_pos c24] at H
                have c24b0 : decide ((t104.length : Int) < (t112.length : Int)) = true := decide_eq_true c24
                have c24b1 : decide (t104.length < t112.length) = true := decide_eq_true (Int.ofNat_lt.mp c24)
                clear c24
                (first | rw [c24b0] | (simp only [i64_w, i32_w]; rw [c24b0]) | skip)
                have H' := Aside0.mk H
                clear H
                obtain ⟨Ao25, co25, eo25⟩ := Kd.R_slice HO116.out
                subst eo25
                go_wp2
                go_meet
                case rel => exact ⟨_, (true), (by first | rfl | (simp; done) | (simp [*]; done)), H', ⟨by first | omega | exact Nat.le_refl _⟩, ⟨by (with_reducible repeat (first | apply Kd.R_alloc | apply Kd.R_drewN | apply Kd.R_drew)); exact Kd.R_mono HO106.out (fun _ hk => hk.2)⟩, ⟨by (with_reducible repeat (first | apply Kd.R_alloc | apply Kd.R_drewN | apply Kd.R_drew)); exact Kd.R_mono HO116.out (fun _ hk => hk.2)⟩, ⟨by repeat (first | (with_reducible first | exact HB.out | apply below_alloc | apply pw_below_drewN | apply below_drew1 | refine below_set ?_ (IsS74.ge HI103.out)) | exact HB.out)⟩⟩
              · rw [if_neg c24] at H
                have c24b0 : decide ((t104.length : Int) < (t112.length : Int)) = false := decide_eq_false c24
                have c24b1 : decide (t104.length < t112.length) = false := decide_eq_false (fun h => c24 (Int.ofNat_lt.mpr h))
                clear c24
                (first | rw [c24b0] | (simp only [i64_w, i32_w]; rw [c24b0]) | skip)
                by_cases c26 : t114 = 2
                · rw [if_pos c26] at H
                  have c26b0 : (t114 == 2) = true := beq_iff_eq.mpr c26
                  have c26b1 : (t114 != 2) = false := bne_eq_false_iff_eq.mpr c26
                  clear c26
                  have H' := Aside0.mk H
                  clear H
                  obtain ⟨Ao27, co27, eo27⟩ := Kd.R_slice HO116.out
                  subst eo27
                  go_wp2
                  go_meet
                  case rel => exact ⟨_, (true), (by first | rfl | (simp; done) | (simp [*]; done)), H', ⟨by first | omega | exact Nat.le_refl _⟩, ⟨by (with_reducible repeat (first | apply Kd.R_alloc | apply Kd.R_drewN | apply Kd.R_drew)); exact Kd.R_mono HO106.out (fun _ hk => hk.2)⟩, ⟨by (with_reducible repeat (first | apply Kd.R_alloc | apply Kd.R_drewN | apply Kd.R_drew)); exact Kd.R_mono HO116.out (fun _ hk => hk.2)⟩, ⟨by repeat (first | (with_reducible first | exact HB.out | apply below_alloc | apply pw_below_drewN | apply below_drew1 | refine below_set ?_ (IsS74.ge HI103.out)) | exact HB.out)⟩⟩
                · rw [if_neg c26] at H
                  have c26b0 : (t114 == 2) = false := beq_eq_false_iff_ne.mpr c26
                  have c26b1 : (t114 != 2) = true := bne_iff_ne.mpr c26
                  have H' := Aside0.mk H
                  clear H
                  obtain ⟨Ao28, co28, eo28⟩ := Kd.R_slice HO116.out
                  subst eo28
                  go_wp2
                  go_meet
                  case rel => exact ⟨_, (decide (t113 > t110)), (by first | rfl | (simp; done) | (simp [*]; done)), H', ⟨by first | omega | exact Nat.le_refl _⟩, ⟨by (with_reducible repeat (first | apply Kd.R_alloc | apply Kd.R_drewN | apply Kd.R_drew)); exact Kd.R_mono HO106.out (fun _ hk => hk.2)⟩, ⟨by (with_reducible repeat (first | apply Kd.R_alloc | apply Kd.R_drewN | apply Kd.R_drew)); exact Kd.R_mono HO116.out (fun _ hk => hk.2)⟩, ⟨by repeat (first | (with_reducible first | exact HB.out | apply below_alloc | apply pw_below_drewN | apply below_drew1 | refine below_set ?_ (IsS74.ge HI103.out)) | exact HB.out)⟩⟩
            case rest =>
              clear HC17
              try clear c1
              try clear c2
              try clear p2
              try clear c4
              try clear p6
              try clear c11
              try clear c11b0
              try clear c11b1
              try clear c12
              try clear c12b0
              try clear c12b1
              try clear c13
              try clear c13b0
              try clear c13b1
              try clear c14
              try clear c14b0
              try clear c14b1
              try clear c15
              try clear c15b0
              try clear c15b1
              try clear c15b2
              try clear c20
              try clear c21
              try clear c22
              try clear c23
              try clear c24
              try clear c24b0
              try clear c24b1
              try clear c26
              try clear c26b0
              try clear c26b1
              try clear c27
              obtain ⟨kq, x64_16, rfl, HA, HJ16, HO_7, HO_12, HB⟩ := hcut
              cases kq with
              | zero => exact absurd HA.out (by simp [corporalaw40_JournalTorn.j0])
              | succ kj16 =>
                have H := HA.out
                clear HA
                simp only [corporalaw40_JournalTorn.j0] at H
                by_cases c29 : x64_16 = true
                · subst c29
                  have H1 : (some false) = some r := by rw [if_pos rfl] at H; exact H
                  clear H
                  have H := H1
                  clear H1
                  obtain rfl := Option.some.inj H
                  go_wp2
                  go_ret
                  exact ⟨by first | rfl | (simp [errW_none, errW_some] <;> rfl) | (simp only [← hji8, ← hji10]; first | rfl | (simp [errW_none, errW_some] <;> rfl)) | (simp [*, errW_none, errW_some] <;> rfl), by repeat (first | (with_reducible first | exact HB.out | apply below_alloc | apply pw_below_drewN | apply below_drew1) | exact HB.out)⟩
                · replace c29 := Bool.eq_false_iff.mpr c29
                  subst c29
                  have H1 : (corporalaw40_JournalTorn.l0 kj16 t104 t110 t111 t112 t113 (t112.length : Int) 0) = some r := by rw [if_neg (show ¬ (false = true) by decide)] at H; exact H
                  clear H
                  have H := H1
                  clear H1
                  have H' := Aside0.mk H
                  clear H
                  obtain ⟨Ao30, co30, eo30⟩ := Kd.R_slice HO_12.out
                  subst eo30
                  go_wp2
                  go_loopg [67] kj16 (fun kq v67 w' => ∃ (x67_2 : Int), v67 = .int .i64 x67_2 ∧ Aside0 (corporalaw40_JournalTorn.l0 kq t104 t110 t111 t112 t113 (t112.length : Int) x67_2 = some r) ∧ Aside0 (kq ≤ kj16) ∧ Aside0 (Kd.R k37 37 w' w.heap.size (fun k_ => some k_ ≠ ((.slice Ao30 t112.length co30) : Value).ownBlock) (.slice Ao20 t104.length co20) t104) ∧ Aside0 (Kd.R k37 37 w' w.heap.size (fun k_ => some k_ ≠ ((.slice Ao20 t104.length co20) : Value).ownBlock) (.slice Ao30 t112.length co30) t112) ∧ Aside0 (Below w.heap.size w w'))
                  case atStart => exact ⟨(0), (by first | rfl | (simp; done) | (simp [*]; done)), H', ⟨Nat.le_refl _⟩, ⟨by (with_reducible repeat (first | apply Kd.R_alloc | apply Kd.R_drewN | apply Kd.R_drew)); exact HO_7.out⟩, ⟨by (with_reducible repeat (first | apply Kd.R_alloc | apply Kd.R_drewN | apply Kd.R_drew)); exact HO_12.out⟩, ⟨by repeat (first | (with_reducible first | exact HB.out | apply below_alloc | apply pw_below_drewN | apply below_drew1) | exact HB.out)⟩⟩
                  case round =>
                    clear H'
                    try clear c1
                    try clear c2
                    try clear p2
                    try clear c4
                    try clear p6
                    try clear c11
                    try clear c11b0
                    try clear c11b1
                    try clear c12
                    try clear c12b0
                    try clear c12b1
                    try clear c13
                    try clear c13b0
                    try clear c13b1
                    try clear c14
                    try clear c14b0
                    try clear c14b1
                    try clear c15
                    try clear c15b0
                    try clear c15b1
                    try clear c15b2
                    try clear c20
                    try clear c21
                    try clear c22
                    try clear c23
                    try clear c24
                    try clear c24b0
                    try clear c24b1
                    try clear c26
                    try clear c26b0
                    try clear c26b1
                    try clear c27
                    try clear c29
                    try clear p2
                    try clear p6
                    obtain ⟨x67_2, rfl, HA, HK2, HO_7, HO_12, HB⟩ := hrel
                    cases gk with
                    | zero => exact absurd HA.out (by simp [corporalaw40_JournalTorn.l0])
                    | succ k2 =>
                      have H := HA.out
                      clear HA
                      simp only [corporalaw40_JournalTorn.l0] at H
                      by_cases c31 : x67_2 < (t112.length : Int)
                      · rw [if_pos c31] at H
                        have c31b0 : decide (x67_2 < (t112.length : Int)) = true := decide_eq_true c31
                        clear c31
                        by_cases c32 : 0 ≤ x67_2
                        · rw [if_pos c32] at H
                          have c32b0 : decide (0 ≤ x67_2) = true := decide_eq_true c32
                          clear c32
                          by_cases c33 : x67_2 < (t112.length : Int)
                          · rw [if_pos c33] at H
                            have c33b0 : decide (x67_2 < (t112.length : Int)) = true := decide_eq_true c33
                            clear c33
                            by_cases c34 : x67_2 < (t104.length : Int)
                            · rw [if_pos c34] at H
                              have c34b0 : decide (x67_2 < (t104.length : Int)) = true := decide_eq_true c34
                              clear c34
                              by_cases c35 : (!(((rd_T37 t112 x67_2).f0) == ((rd_T37 t104 x67_2).f0)) || (!((((rd_T37 t112 x67_2).f1).toList) == (((rd_T37 t104 x67_2).f1).toList)))) = true
                              · rw [if_pos c35] at H
                                have c35b0 : (!(((rd_T37 t112 x67_2).f0) == ((rd_T37 t104 x67_2).f0)) || (!((((rd_T37 t112 x67_2).f1).toList) == (((rd_T37 t104 x67_2).f1).toList)))) = true := c35
                                clear c35
                                obtain rfl := Option.some.inj H
                                try go_wp2
                                have n0_ := Aside0.mk (Kd.R_drew HO_7.out)
                                have n1_ := Aside0.mk (Kd.R_drew HO_12.out)
                                have n2_ := Aside0.mk (below_drew1 HB.out)
                                clear HO_7
                                clear HO_12
                                clear HB
                                have HO_7 := n0_
                                have HO_12 := n1_
                                have HB := n2_
                                clear n0_ n1_ n2_
                                have p117 : 0 ≤ (x67_2 : Int) := of_decide_eq_true (by first | (with_reducible assumption) | assumption)
                                have q117 : x67_2 < (t112.length : Int) := of_decide_eq_true (by first | (with_reducible assumption) | assumption)
                                obtain ⟨ad117, e117, hx117_0, hx117_1⟩ := at_T37 (Kd.R_reads' HO_12.out).2.2 x67_2 p117 q117
                                cases e117
                                replace p117 := eq_true p117
                                replace q117 := eq_true q117
                                have p118 : 0 ≤ (x67_2 : Int) := of_decide_eq_true (by first | (with_reducible assumption) | assumption)
                                have q118 : x67_2 < (t104.length : Int) := of_decide_eq_true (by first | (with_reducible assumption) | assumption)
                                obtain ⟨ad118, e118, hx118_0, hx118_1⟩ := at_T37 (Kd.R_reads' HO_7.out).2.2 x67_2 p118 q118
                                cases e118
                                replace p118 := eq_true p118
                                replace q118 := eq_true q118
                                refine start_ (n := 9) (S := fun w' => w'.cell? (ad117.add ((x67_2).toNat * 2)) = some (.int .i64 ((rd_T37 t112 x67_2).f0)) ∧ w'.cell? ⟨(ad117.add ((x67_2).toNat * 2)).block, (ad117.add ((x67_2).toNat * 2)).off + 1, none⟩ = some (.string ((rd_T37 t112 x67_2).f1)) ∧ w'.cell? (ad118.add ((x67_2).toNat * 2)) = some (.int .i64 ((rd_T37 t104 x67_2).f0)) ∧ w'.cell? ⟨(ad118.add ((x67_2).toNat * 2)).block, (ad118.add ((x67_2).toNat * 2)).off + 1, none⟩ = some (.string ((rd_T37 t104 x67_2).f1))) (ds := []) #[false, false, false, false, false, false, false, false, false] (by kernel_rfl) rfl rfl ⟨hx117_0, hx117_1, hx118_0, hx118_1⟩ (fun hHeld => ?_); refine with_tabW corporalaw40_JournalTorn.tab11 corporalaw40_JournalTorn.bits11 (fun HT_ HW_ => ?_)
                                generalize wr.drew = w36 at HO_7 HO_12 HB hx117_0 hx117_1 hx118_0 hx118_1 hHeld ⊢
                                refine pure_ (i := 0) (N := some 70) (v := ?_) (a' := ?_) #[true, false, false, false, false, false, false, false, false] rfl rfl (any_of HT_.out (by kernel_rfl)) (fun _ _ _ h => h) (Or.inl ⟨by rfl, ?_⟩) ?_ ?_
                                rotate_left
                                · intro w'
                                  go_simp
                                  with_reducible rfl
                                rotate_left
                                · simp only [Act.put, List.setIfInBounds_toArray, List.set_cons_zero, List.set_cons_succ, i64_w, i32_w]
                                  rfl
                                refine pure_ (i := 1) (N := some 71) (v := ?_) (a' := ?_) #[true, true, false, false, false, false, false, false, false] rfl rfl (any_of HT_.out (by kernel_rfl)) (fun _ _ _ h => h) (Or.inl ⟨by rfl, ?_⟩) ?_ ?_
                                rotate_left
                                · intro w'
                                  go_simp
                                  with_reducible rfl
                                rotate_left
                                · simp only [Act.put, List.setIfInBounds_toArray, List.set_cons_zero, List.set_cons_succ, i64_w, i32_w]
                                  rfl
                                refine pure_ (i := 2) (N := some 72) (v := ?_) (a' := ?_) #[true, true, true, false, false, false, false, false, false] rfl rfl (any_of HT_.out (by kernel_rfl)) (fun _ _ _ h => h) (Or.inl ⟨by rfl, ?_⟩) ?_ ?_
                                rotate_left
                                · intro w'
                                  go_simp
                                  with_reducible rfl
                                rotate_left
                                · simp only [Act.put, List.setIfInBounds_toArray, List.set_cons_zero, List.set_cons_succ, i64_w, i32_w]
                                  rfl
                                refine pure_ (i := 4) (N := some 74) (v := ?_) (a' := ?_) #[true, true, true, false, true, false, false, false, false] rfl rfl (any_of HT_.out (by kernel_rfl)) (fun _ _ _ h => h) (Or.inl ⟨by rfl, ?_⟩) ?_ ?_
                                rotate_left
                                · intro w'
                                  go_simp
                                  with_reducible rfl
                                rotate_left
                                · simp only [Act.put, List.setIfInBounds_toArray, List.set_cons_zero, List.set_cons_succ, i64_w, i32_w]
                                  rfl
                                refine pure_ (i := 5) (N := some 75) (v := ?_) (a' := ?_) #[true, true, true, false, true, true, false, false, false] rfl rfl (any_of HT_.out (by kernel_rfl)) (fun _ _ _ h => h) (Or.inl ⟨by rfl, ?_⟩) ?_ ?_
                                rotate_left
                                · intro w'
                                  go_simp
                                  with_reducible rfl
                                rotate_left
                                · simp only [Act.put, List.setIfInBounds_toArray, List.set_cons_zero, List.set_cons_succ, i64_w, i32_w]
                                  rfl
                                refine pure_ (i := 6) (N := some 76) (v := ?_) (a' := ?_) #[true, true, true, false, true, true, true, false, false] rfl rfl (any_of HT_.out (by kernel_rfl)) (fun _ _ _ h => h) (Or.inl ⟨by rfl, ?_⟩) ?_ ?_
                                rotate_left
                                · intro w'
                                  go_simp
                                  with_reducible rfl
                                rotate_left
                                · simp only [Act.put, List.setIfInBounds_toArray, List.set_cons_zero, List.set_cons_succ, i64_w, i32_w]
                                  rfl
                                refine take_ (i := 3) (N := some 73) (v := ?_) (a' := ?_) #[true, true, true, true, true, true, true, false, false] rfl rfl (take_ofW HT_.out HW_.out (by kernel_rfl)) (fun _ _ _ h => h) (Or.inl ⟨by rfl, ?_⟩) hHeld ?_ ?_
                                rotate_left
                                · rintro w' ⟨s0, s1, s2, s3⟩
                                  go_simp
                                  with_reducible rfl
                                rotate_left
                                · simp only [Act.put, List.setIfInBounds_toArray, List.set_cons_zero, List.set_cons_succ, i64_w, i32_w]
                                  rfl
                                refine take_ (i := 7) (N := some 77) (v := ?_) (a' := ?_) #[true, true, true, true, true, true, true, true, false] rfl rfl (take_ofW HT_.out HW_.out (by kernel_rfl)) (fun _ _ _ h => h) (Or.inl ⟨by rfl, ?_⟩) hHeld ?_ ?_
                                rotate_left
                                · rintro w' ⟨s0, s1, s2, s3⟩
                                  go_simp
                                  with_reducible rfl
                                rotate_left
                                · simp only [Act.put, List.setIfInBounds_toArray, List.set_cons_zero, List.set_cons_succ, i64_w, i32_w]
                                  rfl
                                refine pure_ (i := 8) (N := some 78) (v := ?_) (a' := ?_) #[true, true, true, true, true, true, true, true, true] rfl rfl (any_of HT_.out (by kernel_rfl)) (fun _ _ _ h => h) (Or.inl ⟨by rfl, ?_⟩) ?_ ?_
                                rotate_left
                                · intro w'
                                  go_simp
                                  with_reducible rfl
                                rotate_left
                                · simp only [Act.put, List.setIfInBounds_toArray, List.set_cons_zero, List.set_cons_succ, i64_w, i32_w]
                                  rfl
                                refine done_ (done_of HT_.out (by kernel_rfl)) ?_
                                try go_wp2
                                go_ret
                                exact ⟨by first | rfl | (simp [errW_none, errW_some] <;> rfl) | (simp only [← hji8, ← hji10]; first | rfl | (simp [errW_none, errW_some] <;> rfl)) | (simp [*, errW_none, errW_some] <;> rfl), by repeat (first | (with_reducible first | exact HB.out | apply below_alloc | apply pw_below_drewN | apply below_drew1) | exact HB.out)⟩
                              · rw [if_neg c35] at H
                                have c35b0 : (!(((rd_T37 t112 x67_2).f0) == ((rd_T37 t104 x67_2).f0)) || (!((((rd_T37 t112 x67_2).f1).toList) == (((rd_T37 t104 x67_2).f1).toList)))) = false := by simpa using c35
                                clear c35
                                have H' := Aside0.mk H
                                clear H
                                try go_wp2
                                have n0_ := Aside0.mk (Kd.R_drew HO_7.out)
                                have n1_ := Aside0.mk (Kd.R_drew HO_12.out)
                                have n2_ := Aside0.mk (below_drew1 HB.out)
                                clear HO_7
                                clear HO_12
                                clear HB
                                have HO_7 := n0_
                                have HO_12 := n1_
                                have HB := n2_
                                clear n0_ n1_ n2_
                                have p117 : 0 ≤ (x67_2 : Int) := of_decide_eq_true (by first | (with_reducible assumption) | assumption)
                                have q117 : x67_2 < (t112.length : Int) := of_decide_eq_true (by first | (with_reducible assumption) | assumption)
                                obtain ⟨ad117, e117, hx117_0, hx117_1⟩ := at_T37 (Kd.R_reads' HO_12.out).2.2 x67_2 p117 q117
                                cases e117
                                replace p117 := eq_true p117
                                replace q117 := eq_true q117
                                have p118 : 0 ≤ (x67_2 : Int) := of_decide_eq_true (by first | (with_reducible assumption) | assumption)
                                have q118 : x67_2 < (t104.length : Int) := of_decide_eq_true (by first | (with_reducible assumption) | assumption)
                                obtain ⟨ad118, e118, hx118_0, hx118_1⟩ := at_T37 (Kd.R_reads' HO_7.out).2.2 x67_2 p118 q118
                                cases e118
                                replace p118 := eq_true p118
                                replace q118 := eq_true q118
                                refine start_ (n := 9) (S := fun w' => w'.cell? (ad117.add ((x67_2).toNat * 2)) = some (.int .i64 ((rd_T37 t112 x67_2).f0)) ∧ w'.cell? ⟨(ad117.add ((x67_2).toNat * 2)).block, (ad117.add ((x67_2).toNat * 2)).off + 1, none⟩ = some (.string ((rd_T37 t112 x67_2).f1)) ∧ w'.cell? (ad118.add ((x67_2).toNat * 2)) = some (.int .i64 ((rd_T37 t104 x67_2).f0)) ∧ w'.cell? ⟨(ad118.add ((x67_2).toNat * 2)).block, (ad118.add ((x67_2).toNat * 2)).off + 1, none⟩ = some (.string ((rd_T37 t104 x67_2).f1))) (ds := []) #[false, false, false, false, false, false, false, false, false] (by kernel_rfl) rfl rfl ⟨hx117_0, hx117_1, hx118_0, hx118_1⟩ (fun hHeld => ?_); refine with_tabW corporalaw40_JournalTorn.tab11 corporalaw40_JournalTorn.bits11 (fun HT_ HW_ => ?_)
                                generalize wr.drew = w37 at HO_7 HO_12 HB hx117_0 hx117_1 hx118_0 hx118_1 hHeld ⊢
                                refine pure_ (i := 0) (N := some 70) (v := ?_) (a' := ?_) #[true, false, false, false, false, false, false, false, false] rfl rfl (any_of HT_.out (by kernel_rfl)) (fun _ _ _ h => h) (Or.inl ⟨by rfl, ?_⟩) ?_ ?_
                                rotate_left
                                · intro w'
                                  go_simp
                                  with_reducible rfl
                                rotate_left
                                · simp only [Act.put, List.setIfInBounds_toArray, List.set_cons_zero, List.set_cons_succ, i64_w, i32_w]
                                  rfl
                                refine pure_ (i := 1) (N := some 71) (v := ?_) (a' := ?_) #[true, true, false, false, false, false, false, false, false] rfl rfl (any_of HT_.out (by kernel_rfl)) (fun _ _ _ h => h) (Or.inl ⟨by rfl, ?_⟩) ?_ ?_
                                rotate_left
                                · intro w'
                                  go_simp
                                  with_reducible rfl
                                rotate_left
                                · simp only [Act.put, List.setIfInBounds_toArray, List.set_cons_zero, List.set_cons_succ, i64_w, i32_w]
                                  rfl
                                refine pure_ (i := 2) (N := some 72) (v := ?_) (a' := ?_) #[true, true, true, false, false, false, false, false, false] rfl rfl (any_of HT_.out (by kernel_rfl)) (fun _ _ _ h => h) (Or.inl ⟨by rfl, ?_⟩) ?_ ?_
                                rotate_left
                                · intro w'
                                  go_simp
                                  with_reducible rfl
                                rotate_left
                                · simp only [Act.put, List.setIfInBounds_toArray, List.set_cons_zero, List.set_cons_succ, i64_w, i32_w]
                                  rfl
                                refine pure_ (i := 4) (N := some 74) (v := ?_) (a' := ?_) #[true, true, true, false, true, false, false, false, false] rfl rfl (any_of HT_.out (by kernel_rfl)) (fun _ _ _ h => h) (Or.inl ⟨by rfl, ?_⟩) ?_ ?_
                                rotate_left
                                · intro w'
                                  go_simp
                                  with_reducible rfl
                                rotate_left
                                · simp only [Act.put, List.setIfInBounds_toArray, List.set_cons_zero, List.set_cons_succ, i64_w, i32_w]
                                  rfl
                                refine pure_ (i := 5) (N := some 75) (v := ?_) (a' := ?_) #[true, true, true, false, true, true, false, false, false] rfl rfl (any_of HT_.out (by kernel_rfl)) (fun _ _ _ h => h) (Or.inl ⟨by rfl, ?_⟩) ?_ ?_
                                rotate_left
                                · intro w'
                                  go_simp
                                  with_reducible rfl
                                rotate_left
                                · simp only [Act.put, List.setIfInBounds_toArray, List.set_cons_zero, List.set_cons_succ, i64_w, i32_w]
                                  rfl
                                refine pure_ (i := 6) (N := some 76) (v := ?_) (a' := ?_) #[true, true, true, false, true, true, true, false, false] rfl rfl (any_of HT_.out (by kernel_rfl)) (fun _ _ _ h => h) (Or.inl ⟨by rfl, ?_⟩) ?_ ?_
                                rotate_left
                                · intro w'
                                  go_simp
                                  with_reducible rfl
                                rotate_left
                                · simp only [Act.put, List.setIfInBounds_toArray, List.set_cons_zero, List.set_cons_succ, i64_w, i32_w]
                                  rfl
                                refine take_ (i := 3) (N := some 73) (v := ?_) (a' := ?_) #[true, true, true, true, true, true, true, false, false] rfl rfl (take_ofW HT_.out HW_.out (by kernel_rfl)) (fun _ _ _ h => h) (Or.inl ⟨by rfl, ?_⟩) hHeld ?_ ?_
                                rotate_left
                                · rintro w' ⟨s0, s1, s2, s3⟩
                                  go_simp
                                  with_reducible rfl
                                rotate_left
                                · simp only [Act.put, List.setIfInBounds_toArray, List.set_cons_zero, List.set_cons_succ, i64_w, i32_w]
                                  rfl
                                refine take_ (i := 7) (N := some 77) (v := ?_) (a' := ?_) #[true, true, true, true, true, true, true, true, false] rfl rfl (take_ofW HT_.out HW_.out (by kernel_rfl)) (fun _ _ _ h => h) (Or.inl ⟨by rfl, ?_⟩) hHeld ?_ ?_
                                rotate_left
                                · rintro w' ⟨s0, s1, s2, s3⟩
                                  go_simp
                                  with_reducible rfl
                                rotate_left
                                · simp only [Act.put, List.setIfInBounds_toArray, List.set_cons_zero, List.set_cons_succ, i64_w, i32_w]
                                  rfl
                                refine pure_ (i := 8) (N := some 78) (v := ?_) (a' := ?_) #[true, true, true, true, true, true, true, true, true] rfl rfl (any_of HT_.out (by kernel_rfl)) (fun _ _ _ h => h) (Or.inl ⟨by rfl, ?_⟩) ?_ ?_
                                rotate_left
                                · intro w'
                                  go_simp
                                  with_reducible rfl
                                rotate_left
                                · simp only [Act.put, List.setIfInBounds_toArray, List.set_cons_zero, List.set_cons_succ, i64_w, i32_w]
                                  rfl
                                refine done_ (done_of HT_.out (by kernel_rfl)) ?_
                                try go_wp2
                                go_roundg k2
                                case measure => have := HJ16.out; have := HK2.out; omega
                                case rel => exact ⟨(wrap64 (x67_2 + 1)), (by first | rfl | (simp; done) | (simp [*]; done)), H', ⟨by have := HJ16.out; have := HK2.out; omega⟩, ⟨by (with_reducible repeat (first | apply Kd.R_alloc | apply Kd.R_drewN | apply Kd.R_drew)); exact HO_7.out⟩, ⟨by (with_reducible repeat (first | apply Kd.R_alloc | apply Kd.R_drewN | apply Kd.R_drew)); exact HO_12.out⟩, ⟨by repeat (first | (with_reducible first | exact HB.out | apply below_alloc | apply pw_below_drewN | apply below_drew1) | exact HB.out)⟩⟩
                            · rw [if_neg c34] at H
                              exact absurd H (by simp)
                          · rw [if_neg c33] at H
                            exact absurd H (by simp)
                        · rw [if_neg c32] at H
                          exact absurd H (by simp)
                      · rw [if_neg c31] at H
                        have c31b0 : decide (x67_2 < (t112.length : Int)) = false := decide_eq_false c31
                        clear c31
                        by_cases c38 : 0 ≤ (t112.length : Int)
                        · rw [if_pos c38] at H
                          have c38b0 := eq_true c38
                          have c38b1 : decide (0 ≤ (t112.length : Int)) = true := decide_eq_true c38
                          clear c38
                          by_cases c39 : (t112.length : Int) ≤ (t104.length : Int)
                          · rw [if_pos c39] at H
                            have c39b0 := eq_true c39
                            have c39b1 : decide ((t112.length : Int) ≤ (t104.length : Int)) = true := decide_eq_true c39
                            clear c39
                            obtain ⟨y119, hy119⟩ : ∃ y_ : List (S37), y_ = (t104.take ((t112.length : Int) : Int).toNat) := ⟨_, rfl⟩
                            replace H : ((corporaref40_EncodeAll.f k2 y119).bind fun bt123 => (if t113 = (bt123.1.size : Int) then (if (t112.length : Int) < (t104.length : Int) then (if 0 ≤ (wrap64 ((t112.length : Int) + 1)) then (if (wrap64 ((t112.length : Int) + 1)) ≤ (t104.length : Int) then ((corporaref40_EncodeAll.f k2 (t104.take ((wrap64 ((t112.length : Int) + 1)) : Int).toNat)).bind fun bt129 => (if (bt129.1.size : Int) > (wrap64 (t110 - t111)) then ((corporalaw40_known.f k2).bind fun t131 => (some t131)) else (some false))) else (none)) else (none)) else ((corporalaw40_known.f k2).bind fun t132 => (some t132))) else (some false))) = some r := by first | (rw [hy119]; with_reducible exact H) | (have H2_ := (Option.bind_some _ _).symm.trans H; rw [hy119]; with_reducible exact H2_) | (have H2_ := (Option.bind_some _ _).symm.trans H; with_reducible exact H2_) | with_reducible exact H | (rw [hy119]; exact H) | exact H
                            have Ny119 := Aside0.mk hy119
                            clear hy119
                            replace H := Option.bind_eq_some_iff.mp H
                            obtain ⟨⟨t123, t124⟩, A400, H⟩ := H
                            replace H : (if t113 = (t123.size : Int) then (if (t112.length : Int) < (t104.length : Int) then (if 0 ≤ (wrap64 ((t112.length : Int) + 1)) then (if (wrap64 ((t112.length : Int) + 1)) ≤ (t104.length : Int) then ((corporaref40_EncodeAll.f k2 (t104.take ((wrap64 ((t112.length : Int) + 1)) : Int).toNat)).bind fun bt129 => (if (bt129.1.size : Int) > (wrap64 (t110 - t111)) then ((corporalaw40_known.f k2).bind fun t131 => (some t131)) else (some false))) else (none)) else (none)) else ((corporalaw40_known.f k2).bind fun t132 => (some t132))) else (some false)) = some r := H
                            have A40 := Aside0.mk A400
                            clear A400
                            by_cases c41 : t113 = (t123.size : Int)
                            · rw [if_pos c41] at H
                              have c41b0 : (t113 == (t123.size : Int)) = true := beq_iff_eq.mpr c41
                              have c41b1 : (t113 != (t123.size : Int)) = false := bne_eq_false_iff_eq.mpr c41
                              clear c41
                              by_cases c42 : (t112.length : Int) < (t104.length : Int)
                              · rw [if_pos c42] at H
                                have c42b0 : decide ((t112.length : Int) < (t104.length : Int)) = true := decide_eq_true c42
                                have c42b1 : decide (t112.length < t104.length) = true := decide_eq_true (Int.ofNat_lt.mp c42)
                                clear c42
                                obtain ⟨ji43, hji43⟩ : ∃ j_ : Int, (wrap64 ((t112.length : Int) + 1)) = j_ := ⟨_, rfl⟩
                                replace H : (if 0 ≤ (ji43) then (if (ji43) ≤ (t104.length : Int) then ((corporaref40_EncodeAll.f k2 (t104.take ((ji43) : Int).toNat)).bind fun bt129 => (if (bt129.1.size : Int) > (wrap64 (t110 - t111)) then ((corporalaw40_known.f k2).bind fun t131 => (some t131)) else (some false))) else (none)) else (none)) = some r := by first | (rw [hji43] at H; exact H) | (simp only [hji43] at H ⊢; exact H)
                                (try rw [hji43] at A40)
                                have hji43w : (IntKind.i64.wrap ((t112.length : Int) + 1)) = ji43 := (i64_w _).trans hji43
                                by_cases c44 : 0 ≤ (ji43)
                                · rw [if_pos c44] at H
                                  have c44b0 := eq_true c44
                                  have c44b1 : decide (0 ≤ (ji43)) = true := decide_eq_true c44
                                  clear c44
                                  by_cases c45 : (ji43) ≤ (t104.length : Int)
                                  · rw [if_pos c45] at H
                                    have c45b0 := eq_true c45
                                    have c45b1 : decide ((ji43) ≤ (t104.length : Int)) = true := decide_eq_true c45
                                    clear c45
                                    obtain ⟨y125, hy125⟩ : ∃ y_ : List (S37), y_ = (t104.take ((ji43) : Int).toNat) := ⟨_, rfl⟩
                                    replace H : ((corporaref40_EncodeAll.f k2 y125).bind fun bt129 => (if (bt129.1.size : Int) > (wrap64 (t110 - t111)) then ((corporalaw40_known.f k2).bind fun t131 => (some t131)) else (some false))) = some r := by first | (rw [hy125]; with_reducible exact H) | (have H2_ := (Option.bind_some _ _).symm.trans H; rw [hy125]; with_reducible exact H2_) | (have H2_ := (Option.bind_some _ _).symm.trans H; with_reducible exact H2_) | with_reducible exact H | (rw [hy125]; exact H) | exact H
                                    have Ny125 := Aside0.mk hy125
                                    clear hy125
                                    replace H := Option.bind_eq_some_iff.mp H
                                    obtain ⟨⟨t129, t130⟩, A460, H⟩ := H
                                    replace H : (if (t129.size : Int) > (wrap64 (t110 - t111)) then ((corporalaw40_known.f k2).bind fun t131 => (some t131)) else (some false)) = some r := H
                                    have A46 := Aside0.mk A460
                                    clear A460
                                    by_cases c47 : (t129.size : Int) > (wrap64 (t110 - t111))
                                    · rw [if_pos c47] at H
                                      have c47b0 : decide ((wrap64 (t110 - t111)) < (t129.size : Int)) = true := decide_eq_true c47
                                      (try rw [hji10] at c47b0)
                                      clear c47
                                      replace H := Option.bind_eq_some_iff.mp H
                                      obtain ⟨t131, A480, H⟩ := H
                                      replace H : (some t131) = some r := H
                                      have A48 := Aside0.mk A480
                                      clear A480
                                      obtain rfl := Option.some.inj H
                                      have q49 : ((t112.length : Int) : Int) ≤ ((t104.length : Int) : Int) := of_decide_eq_true (by first | (with_reducible assumption) | assumption)
                                      obtain ⟨i049, hi049, _, hsz49, _⟩ := info_parts info37
                                      have hroom49 : t104.length ≤ co20 := (Kd.R_reads' HO_7.out).2.1
                                      have hC49 : Kd.C k37 _ Ao20 t104.length t104 := (Kd.R_reads' HO_7.out).2.2
                                      have hcut49 := cut_to (P := Try.prog) 26 37 .i64 Try.underlying26 hi049 Ao20 t104.length co20 (t112.length : Int) (of_decide_eq_true (by first | (with_reducible assumption) | assumption)) q49 hroom49
                                      have hr49 := Kd.C_take (m := ((t112.length : Int) : Int).toNat) hC49 (by omega)
                                      have hy49 : y119.length = ((t112.length : Int) : Int).toNat := (by rw [Ny119.out, List.length_take]; omega)
                                      rw [← Ny119.out] at hr49
                                      rw [← hy49] at hcut49
                                      have HR122 := Aside0.mk hr49
                                      have HC122 := Aside0.mk (show y119.length ≤ co20 from by omega)
                                      clear hr49 hC49 hroom49 hi049 hsz49
                                      have KY49 := Aside0.mk hy49
                                      clear hy49
                                      have KL49 := Aside0.mk (show ((t112.length : Int) : Int).toNat ≤ t104.length from by omega)
                                      replace q49 := eq_true q49
                                      go_wp2_with (first | ((with_reducible refine gate_callee (f := 20) rfl ?_); refine goesL_ (some 85) rfl rfl Try.func20 (by kernel_rfl) rfl #[.slice Ao20 y119.length co20] rfl (by (try simp only [List.map_toArray, List.map_cons, List.map_nil]); first | done | rfl | (simp only [List.length_drop, List.length_take]; rfl)) ?_; (with_reducible refine (corporaref40_EncodeAll.calls k2 _ _ y119 t123 t124 _ ?side1 ?side2 A40.out).mono ?_); (case side1 => repeat (first | exact (by repeat (first | (with_reducible exact HR122.out) | (with_reducible refine Kd.C_alloc ?_ _) | (with_reducible refine Kd.C_drewN ?_ _) | (with_reducible refine Kd.C_drew ?_) | exact HR122.out)) | (with_reducible refine Kd.C_alloc ?_ _) | (with_reducible refine Kd.C_drewN ?_ _) | (with_reducible refine Kd.C_drew ?_))); (case side2 => exact HC122.out); rintro e w50 ⟨rfl, hb⟩; refine ⟨_, rfl, ?_⟩; have n0_ := Aside0.mk (Kd.R_below (by (with_reducible repeat (first | apply Kd.R_alloc | apply Kd.R_drewN | apply Kd.R_drew)); exact HO_7.out) hb); have n1_ := Aside0.mk (Kd.R_below (by (with_reducible repeat (first | apply Kd.R_alloc | apply Kd.R_drewN | apply Kd.R_drew)); exact HO_12.out) hb); have n2_ := Aside0.mk (Kd.C_below (by repeat (first | (with_reducible exact HR122.out) | (with_reducible refine Kd.C_alloc ?_ _) | (with_reducible refine Kd.C_drewN ?_ _) | (with_reducible refine Kd.C_drew ?_) | exact HR122.out)) hb); have n3_ := Aside0.mk (below_step (by repeat (first | (with_reducible first | exact HB.out | apply below_alloc | apply pw_below_drewN | apply below_drew1) | exact HB.out)) hb); clear HO_7; clear HO_12; clear HR122; clear HB; have HO_7 := n0_; have HO_12 := n1_; have HR122 := n2_; have HB := n3_; clear n0_ n1_ n2_ n3_; (try clear hb); (try clear hb2); (try clear hk); (try clear hi); have q51 : ((ji43) : Int) ≤ ((t104.length : Int) : Int) := of_decide_eq_true (by first | (with_reducible assumption) | assumption); obtain ⟨i051, hi051, _, hsz51, _⟩ := info_parts info37; have hroom51 : t104.length ≤ co20 := (Kd.R_reads' HO_7.out).2.1; have hC51 : Kd.C k37 _ Ao20 t104.length t104 := (Kd.R_reads' HO_7.out).2.2; have hcut51 := cut_to (P := Try.prog) 26 37 .i64 Try.underlying26 hi051 Ao20 t104.length co20 (ji43) (of_decide_eq_true (by first | (with_reducible assumption) | assumption)) q51 hroom51; have hr51 := Kd.C_take (m := ((ji43) : Int).toNat) hC51 (by omega); have hy51 : y125.length = ((ji43) : Int).toNat := (by rw [Ny125.out, List.length_take]; omega); rw [← Ny125.out] at hr51; rw [← hy51] at hcut51; have HR128 := Aside0.mk hr51; have HC128 := Aside0.mk (show y125.length ≤ co20 from by omega); clear hr51 hC51 hroom51 hi051 hsz51; have KY51 := Aside0.mk hy51; clear hy51; have KL51 := Aside0.mk (show ((ji43) : Int).toNat ≤ t104.length from by omega); replace q51 := eq_true q51) | ((with_reducible refine gate_callee (f := 20) rfl ?_); refine goesL_ (some 103) rfl rfl Try.func20 (by kernel_rfl) rfl #[.slice Ao20 y125.length co20] rfl (by (try simp only [List.map_toArray, List.map_cons, List.map_nil]); first | done | rfl | (simp only [List.length_drop, List.length_take]; rfl)) ?_; (with_reducible refine (corporaref40_EncodeAll.calls k2 _ _ y125 t129 t130 _ ?side1 ?side2 A46.out).mono ?_); (case side1 => repeat (first | exact (by repeat (first | (with_reducible exact HR128.out) | (with_reducible refine Kd.C_alloc ?_ _) | (with_reducible refine Kd.C_drewN ?_ _) | (with_reducible refine Kd.C_drew ?_) | exact HR128.out)) | (with_reducible refine Kd.C_alloc ?_ _) | (with_reducible refine Kd.C_drewN ?_ _) | (with_reducible refine Kd.C_drew ?_))); (case side2 => exact HC128.out); rintro e w52 ⟨rfl, hb⟩; refine ⟨_, rfl, ?_⟩; have n0_ := Aside0.mk (Kd.R_below (by (with_reducible repeat (first | apply Kd.R_alloc | apply Kd.R_drewN | apply Kd.R_drew)); exact HO_7.out) hb); have n1_ := Aside0.mk (Kd.R_below (by (with_reducible repeat (first | apply Kd.R_alloc | apply Kd.R_drewN | apply Kd.R_drew)); exact HO_12.out) hb); have n2_ := Aside0.mk (Kd.C_below (by repeat (first | (with_reducible exact HR122.out) | (with_reducible refine Kd.C_alloc ?_ _) | (with_reducible refine Kd.C_drewN ?_ _) | (with_reducible refine Kd.C_drew ?_) | exact HR122.out)) hb); have n3_ := Aside0.mk (Kd.C_below (by repeat (first | (with_reducible exact HR128.out) | (with_reducible refine Kd.C_alloc ?_ _) | (with_reducible refine Kd.C_drewN ?_ _) | (with_reducible refine Kd.C_drew ?_) | exact HR128.out)) hb); have n4_ := Aside0.mk (below_step (by repeat (first | (with_reducible first | exact HB.out | apply below_alloc | apply pw_below_drewN | apply below_drew1) | exact HB.out)) hb); clear HO_7; clear HO_12; clear HR122; clear HR128; clear HB; have HO_7 := n0_; have HO_12 := n1_; have HR122 := n2_; have HR128 := n3_; have HB := n4_; clear n0_ n1_ n2_ n3_ n4_; (try clear hb); (try clear hb2); (try clear hk); (try clear hi)) | (go_at_call 26; (with_reducible refine (corporalaw40_known.calls k2  t131 _ A48.out).mono ?_); rintro e w53 ⟨rfl, hb⟩; have n0_ := Aside0.mk (Kd.R_below (by (with_reducible repeat (first | apply Kd.R_alloc | apply Kd.R_drewN | apply Kd.R_drew)); exact HO_7.out) hb); have n1_ := Aside0.mk (Kd.R_below (by (with_reducible repeat (first | apply Kd.R_alloc | apply Kd.R_drewN | apply Kd.R_drew)); exact HO_12.out) hb); have n2_ := Aside0.mk (Kd.C_below (by repeat (first | (with_reducible exact HR122.out) | (with_reducible refine Kd.C_alloc ?_ _) | (with_reducible refine Kd.C_drewN ?_ _) | (with_reducible refine Kd.C_drew ?_) | exact HR122.out)) hb); have n3_ := Aside0.mk (Kd.C_below (by repeat (first | (with_reducible exact HR128.out) | (with_reducible refine Kd.C_alloc ?_ _) | (with_reducible refine Kd.C_drewN ?_ _) | (with_reducible refine Kd.C_drew ?_) | exact HR128.out)) hb); have n4_ := Aside0.mk (below_step (by repeat (first | (with_reducible first | exact HB.out | apply below_alloc | apply pw_below_drewN | apply below_drew1) | exact HB.out)) hb); clear HO_7; clear HO_12; clear HR122; clear HR128; clear HB; have HO_7 := n0_; have HO_12 := n1_; have HR122 := n2_; have HR128 := n3_; have HB := n4_; clear n0_ n1_ n2_ n3_ n4_; (try clear hb); (try clear hb2); (try clear hk); (try clear hi)))
                                      go_ret
                                      exact ⟨by first | rfl | (simp [errW_none, errW_some] <;> rfl) | (simp only [← hji8, ← hji10, ← hji43]; first | rfl | (simp [errW_none, errW_some] <;> rfl)) | (simp [*, errW_none, errW_some] <;> rfl), by repeat (first | (with_reducible first | exact HB.out | apply below_alloc | apply pw_below_drewN | apply below_drew1) | exact HB.out)⟩
                                    · rw [if_neg c47] at H
                                      have c47b0 : decide ((wrap64 (t110 - t111)) < (t129.size : Int)) = false := decide_eq_false c47
                                      (try rw [hji10] at c47b0)
                                      clear c47
                                      obtain rfl := Option.some.inj H
                                      have q54 : ((t112.length : Int) : Int) ≤ ((t104.length : Int) : Int) := of_decide_eq_true (by first | (with_reducible assumption) | assumption)
                                      obtain ⟨i054, hi054, _, hsz54, _⟩ := info_parts info37
                                      have hroom54 : t104.length ≤ co20 := (Kd.R_reads' HO_7.out).2.1
                                      have hC54 : Kd.C k37 _ Ao20 t104.length t104 := (Kd.R_reads' HO_7.out).2.2
                                      have hcut54 := cut_to (P := Try.prog) 26 37 .i64 Try.underlying26 hi054 Ao20 t104.length co20 (t112.length : Int) (of_decide_eq_true (by first | (with_reducible assumption) | assumption)) q54 hroom54
                                      have hr54 := Kd.C_take (m := ((t112.length : Int) : Int).toNat) hC54 (by omega)
                                      have hy54 : y119.length = ((t112.length : Int) : Int).toNat := (by rw [Ny119.out, List.length_take]; omega)
                                      rw [← Ny119.out] at hr54
                                      rw [← hy54] at hcut54
                                      have HR122 := Aside0.mk hr54
                                      have HC122 := Aside0.mk (show y119.length ≤ co20 from by omega)
                                      clear hr54 hC54 hroom54 hi054 hsz54
                                      have KY54 := Aside0.mk hy54
                                      clear hy54
                                      have KL54 := Aside0.mk (show ((t112.length : Int) : Int).toNat ≤ t104.length from by omega)
                                      replace q54 := eq_true q54
                                      go_wp2_with (first | ((with_reducible refine gate_callee (f := 20) rfl ?_); refine goesL_ (some 85) rfl rfl Try.func20 (by kernel_rfl) rfl #[.slice Ao20 y119.length co20] rfl (by (try simp only [List.map_toArray, List.map_cons, List.map_nil]); first | done | rfl | (simp only [List.length_drop, List.length_take]; rfl)) ?_; (with_reducible refine (corporaref40_EncodeAll.calls k2 _ _ y119 t123 t124 _ ?side1 ?side2 A40.out).mono ?_); (case side1 => repeat (first | exact (by repeat (first | (with_reducible exact HR122.out) | (with_reducible refine Kd.C_alloc ?_ _) | (with_reducible refine Kd.C_drewN ?_ _) | (with_reducible refine Kd.C_drew ?_) | exact HR122.out)) | (with_reducible refine Kd.C_alloc ?_ _) | (with_reducible refine Kd.C_drewN ?_ _) | (with_reducible refine Kd.C_drew ?_))); (case side2 => exact HC122.out); rintro e w55 ⟨rfl, hb⟩; refine ⟨_, rfl, ?_⟩; have n0_ := Aside0.mk (Kd.R_below (by (with_reducible repeat (first | apply Kd.R_alloc | apply Kd.R_drewN | apply Kd.R_drew)); exact HO_7.out) hb); have n1_ := Aside0.mk (Kd.R_below (by (with_reducible repeat (first | apply Kd.R_alloc | apply Kd.R_drewN | apply Kd.R_drew)); exact HO_12.out) hb); have n2_ := Aside0.mk (Kd.C_below (by repeat (first | (with_reducible exact HR122.out) | (with_reducible refine Kd.C_alloc ?_ _) | (with_reducible refine Kd.C_drewN ?_ _) | (with_reducible refine Kd.C_drew ?_) | exact HR122.out)) hb); have n3_ := Aside0.mk (below_step (by repeat (first | (with_reducible first | exact HB.out | apply below_alloc | apply pw_below_drewN | apply below_drew1) | exact HB.out)) hb); clear HO_7; clear HO_12; clear HR122; clear HB; have HO_7 := n0_; have HO_12 := n1_; have HR122 := n2_; have HB := n3_; clear n0_ n1_ n2_ n3_; (try clear hb); (try clear hb2); (try clear hk); (try clear hi); have q56 : ((ji43) : Int) ≤ ((t104.length : Int) : Int) := of_decide_eq_true (by first | (with_reducible assumption) | assumption); obtain ⟨i056, hi056, _, hsz56, _⟩ := info_parts info37; have hroom56 : t104.length ≤ co20 := (Kd.R_reads' HO_7.out).2.1; have hC56 : Kd.C k37 _ Ao20 t104.length t104 := (Kd.R_reads' HO_7.out).2.2; have hcut56 := cut_to (P := Try.prog) 26 37 .i64 Try.underlying26 hi056 Ao20 t104.length co20 (ji43) (of_decide_eq_true (by first | (with_reducible assumption) | assumption)) q56 hroom56; have hr56 := Kd.C_take (m := ((ji43) : Int).toNat) hC56 (by omega); have hy56 : y125.length = ((ji43) : Int).toNat := (by rw [Ny125.out, List.length_take]; omega); rw [← Ny125.out] at hr56; rw [← hy56] at hcut56; have HR128 := Aside0.mk hr56; have HC128 := Aside0.mk (show y125.length ≤ co20 from by omega); clear hr56 hC56 hroom56 hi056 hsz56; have KY56 := Aside0.mk hy56; clear hy56; have KL56 := Aside0.mk (show ((ji43) : Int).toNat ≤ t104.length from by omega); replace q56 := eq_true q56) | ((with_reducible refine gate_callee (f := 20) rfl ?_); refine goesL_ (some 103) rfl rfl Try.func20 (by kernel_rfl) rfl #[.slice Ao20 y125.length co20] rfl (by (try simp only [List.map_toArray, List.map_cons, List.map_nil]); first | done | rfl | (simp only [List.length_drop, List.length_take]; rfl)) ?_; (with_reducible refine (corporaref40_EncodeAll.calls k2 _ _ y125 t129 t130 _ ?side1 ?side2 A46.out).mono ?_); (case side1 => repeat (first | exact (by repeat (first | (with_reducible exact HR128.out) | (with_reducible refine Kd.C_alloc ?_ _) | (with_reducible refine Kd.C_drewN ?_ _) | (with_reducible refine Kd.C_drew ?_) | exact HR128.out)) | (with_reducible refine Kd.C_alloc ?_ _) | (with_reducible refine Kd.C_drewN ?_ _) | (with_reducible refine Kd.C_drew ?_))); (case side2 => exact HC128.out); rintro e w57 ⟨rfl, hb⟩; refine ⟨_, rfl, ?_⟩; have n0_ := Aside0.mk (Kd.R_below (by (with_reducible repeat (first | apply Kd.R_alloc | apply Kd.R_drewN | apply Kd.R_drew)); exact HO_7.out) hb); have n1_ := Aside0.mk (Kd.R_below (by (with_reducible repeat (first | apply Kd.R_alloc | apply Kd.R_drewN | apply Kd.R_drew)); exact HO_12.out) hb); have n2_ := Aside0.mk (Kd.C_below (by repeat (first | (with_reducible exact HR122.out) | (with_reducible refine Kd.C_alloc ?_ _) | (with_reducible refine Kd.C_drewN ?_ _) | (with_reducible refine Kd.C_drew ?_) | exact HR122.out)) hb); have n3_ := Aside0.mk (Kd.C_below (by repeat (first | (with_reducible exact HR128.out) | (with_reducible refine Kd.C_alloc ?_ _) | (with_reducible refine Kd.C_drewN ?_ _) | (with_reducible refine Kd.C_drew ?_) | exact HR128.out)) hb); have n4_ := Aside0.mk (below_step (by repeat (first | (with_reducible first | exact HB.out | apply below_alloc | apply pw_below_drewN | apply below_drew1) | exact HB.out)) hb); clear HO_7; clear HO_12; clear HR122; clear HR128; clear HB; have HO_7 := n0_; have HO_12 := n1_; have HR122 := n2_; have HR128 := n3_; have HB := n4_; clear n0_ n1_ n2_ n3_ n4_; (try clear hb); (try clear hb2); (try clear hk); (try clear hi)))
                                      go_ret
                                      exact ⟨by first | rfl | (simp [errW_none, errW_some] <;> rfl) | (simp only [← hji8, ← hji10, ← hji43]; first | rfl | (simp [errW_none, errW_some] <;> rfl)) | (simp [*, errW_none, errW_some] <;> rfl), by repeat (first | (with_reducible first | exact HB.out | apply below_alloc | apply pw_below_drewN | apply below_drew1) | exact HB.out)⟩
                                  · rw [if_neg c45] at H
                                    exact absurd H (by simp)
                                · rw [if_neg c44] at H
                                  exact absurd H (by simp)
                              · rw [if_neg c42] at H
                                have c42b0 : decide ((t112.length : Int) < (t104.length : Int)) = false := decide_eq_false c42
                                have c42b1 : decide (t112.length < t104.length) = false := decide_eq_false (fun h => c42 (Int.ofNat_lt.mpr h))
                                clear c42
                                replace H := Option.bind_eq_some_iff.mp H
                                obtain ⟨t132, A580, H⟩ := H
                                replace H : (some t132) = some r := H
                                have A58 := Aside0.mk A580
                                clear A580
                                obtain rfl := Option.some.inj H
                                have q59 : ((t112.length : Int) : Int) ≤ ((t104.length : Int) : Int) := of_decide_eq_true (by first | (with_reducible assumption) | assumption)
                                obtain ⟨i059, hi059, _, hsz59, _⟩ := info_parts info37
                                have hroom59 : t104.length ≤ co20 := (Kd.R_reads' HO_7.out).2.1
                                have hC59 : Kd.C k37 _ Ao20 t104.length t104 := (Kd.R_reads' HO_7.out).2.2
                                have hcut59 := cut_to (P := Try.prog) 26 37 .i64 Try.underlying26 hi059 Ao20 t104.length co20 (t112.length : Int) (of_decide_eq_true (by first | (with_reducible assumption) | assumption)) q59 hroom59
                                have hr59 := Kd.C_take (m := ((t112.length : Int) : Int).toNat) hC59 (by omega)
                                have hy59 : y119.length = ((t112.length : Int) : Int).toNat := (by rw [Ny119.out, List.length_take]; omega)
                                rw [← Ny119.out] at hr59
                                rw [← hy59] at hcut59
                                have HR122 := Aside0.mk hr59
                                have HC122 := Aside0.mk (show y119.length ≤ co20 from by omega)
                                clear hr59 hC59 hroom59 hi059 hsz59
                                have KY59 := Aside0.mk hy59
                                clear hy59
                                have KL59 := Aside0.mk (show ((t112.length : Int) : Int).toNat ≤ t104.length from by omega)
                                replace q59 := eq_true q59
                                go_wp2_with (first | ((with_reducible refine gate_callee (f := 20) rfl ?_); refine goesL_ (some 85) rfl rfl Try.func20 (by kernel_rfl) rfl #[.slice Ao20 y119.length co20] rfl (by (try simp only [List.map_toArray, List.map_cons, List.map_nil]); first | done | rfl | (simp only [List.length_drop, List.length_take]; rfl)) ?_; (with_reducible refine (corporaref40_EncodeAll.calls k2 _ _ y119 t123 t124 _ ?side1 ?side2 A40.out).mono ?_); (case side1 => repeat (first | exact (by repeat (first | (with_reducible exact HR122.out) | (with_reducible refine Kd.C_alloc ?_ _) | (with_reducible refine Kd.C_drewN ?_ _) | (with_reducible refine Kd.C_drew ?_) | exact HR122.out)) | (with_reducible refine Kd.C_alloc ?_ _) | (with_reducible refine Kd.C_drewN ?_ _) | (with_reducible refine Kd.C_drew ?_))); (case side2 => exact HC122.out); rintro e w60 ⟨rfl, hb⟩; refine ⟨_, rfl, ?_⟩; have n0_ := Aside0.mk (Kd.R_below (by (with_reducible repeat (first | apply Kd.R_alloc | apply Kd.R_drewN | apply Kd.R_drew)); exact HO_7.out) hb); have n1_ := Aside0.mk (Kd.R_below (by (with_reducible repeat (first | apply Kd.R_alloc | apply Kd.R_drewN | apply Kd.R_drew)); exact HO_12.out) hb); have n2_ := Aside0.mk (Kd.C_below (by repeat (first | (with_reducible exact HR122.out) | (with_reducible refine Kd.C_alloc ?_ _) | (with_reducible refine Kd.C_drewN ?_ _) | (with_reducible refine Kd.C_drew ?_) | exact HR122.out)) hb); have n3_ := Aside0.mk (below_step (by repeat (first | (with_reducible first | exact HB.out | apply below_alloc | apply pw_below_drewN | apply below_drew1) | exact HB.out)) hb); clear HO_7; clear HO_12; clear HR122; clear HB; have HO_7 := n0_; have HO_12 := n1_; have HR122 := n2_; have HB := n3_; clear n0_ n1_ n2_ n3_; (try clear hb); (try clear hb2); (try clear hk); (try clear hi)) | ((with_reducible refine gate_callee (f := 26) rfl ?_); refine goesL_ (some 115) rfl rfl Try.func26 (by kernel_rfl) rfl #[] rfl (by (try simp only [List.map_toArray, List.map_cons, List.map_nil]); first | done | rfl | (simp only [List.length_drop, List.length_take]; rfl)) ?_; (with_reducible refine (corporalaw40_known.calls k2  t132 _ A58.out).mono ?_); rintro e w61 ⟨rfl, hb⟩; refine ⟨_, rfl, ?_⟩; have n0_ := Aside0.mk (Kd.R_below (by (with_reducible repeat (first | apply Kd.R_alloc | apply Kd.R_drewN | apply Kd.R_drew)); exact HO_7.out) hb); have n1_ := Aside0.mk (Kd.R_below (by (with_reducible repeat (first | apply Kd.R_alloc | apply Kd.R_drewN | apply Kd.R_drew)); exact HO_12.out) hb); have n2_ := Aside0.mk (Kd.C_below (by repeat (first | (with_reducible exact HR122.out) | (with_reducible refine Kd.C_alloc ?_ _) | (with_reducible refine Kd.C_drewN ?_ _) | (with_reducible refine Kd.C_drew ?_) | exact HR122.out)) hb); have n3_ := Aside0.mk (below_step (by repeat (first | (with_reducible first | exact HB.out | apply below_alloc | apply pw_below_drewN | apply below_drew1) | exact HB.out)) hb); clear HO_7; clear HO_12; clear HR122; clear HB; have HO_7 := n0_; have HO_12 := n1_; have HR122 := n2_; have HB := n3_; clear n0_ n1_ n2_ n3_; (try clear hb); (try clear hb2); (try clear hk); (try clear hi)))
                                go_ret
                                exact ⟨by first | rfl | (simp [errW_none, errW_some] <;> rfl) | (simp only [← hji8, ← hji10]; first | rfl | (simp [errW_none, errW_some] <;> rfl)) | (simp [*, errW_none, errW_some] <;> rfl), by repeat (first | (with_reducible first | exact HB.out | apply below_alloc | apply pw_below_drewN | apply below_drew1) | exact HB.out)⟩
                            · rw [if_neg c41] at H
                              have c41b0 : (t113 == (t123.size : Int)) = false := beq_eq_false_iff_ne.mpr c41
                              have c41b1 : (t113 != (t123.size : Int)) = true := bne_iff_ne.mpr c41
                              obtain rfl := Option.some.inj H
                              have q62 : ((t112.length : Int) : Int) ≤ ((t104.length : Int) : Int) := of_decide_eq_true (by first | (with_reducible assumption) | assumption)
                              obtain ⟨i062, hi062, _, hsz62, _⟩ := info_parts info37
                              have hroom62 : t104.length ≤ co20 := (Kd.R_reads' HO_7.out).2.1
                              have hC62 : Kd.C k37 _ Ao20 t104.length t104 := (Kd.R_reads' HO_7.out).2.2
                              have hcut62 := cut_to (P := Try.prog) 26 37 .i64 Try.underlying26 hi062 Ao20 t104.length co20 (t112.length : Int) (of_decide_eq_true (by first | (with_reducible assumption) | assumption)) q62 hroom62
                              have hr62 := Kd.C_take (m := ((t112.length : Int) : Int).toNat) hC62 (by omega)
                              have hy62 : y119.length = ((t112.length : Int) : Int).toNat := (by rw [Ny119.out, List.length_take]; omega)
                              rw [← Ny119.out] at hr62
                              rw [← hy62] at hcut62
                              have HR122 := Aside0.mk hr62
                              have HC122 := Aside0.mk (show y119.length ≤ co20 from by omega)
                              clear hr62 hC62 hroom62 hi062 hsz62
                              have KY62 := Aside0.mk hy62
                              clear hy62
                              have KL62 := Aside0.mk (show ((t112.length : Int) : Int).toNat ≤ t104.length from by omega)
                              replace q62 := eq_true q62
                              go_wp2_with (first | ((with_reducible refine gate_callee (f := 20) rfl ?_); refine goesL_ (some 85) rfl rfl Try.func20 (by kernel_rfl) rfl #[.slice Ao20 y119.length co20] rfl (by (try simp only [List.map_toArray, List.map_cons, List.map_nil]); first | done | rfl | (simp only [List.length_drop, List.length_take]; rfl)) ?_; (with_reducible refine (corporaref40_EncodeAll.calls k2 _ _ y119 t123 t124 _ ?side1 ?side2 A40.out).mono ?_); (case side1 => repeat (first | exact (by repeat (first | (with_reducible exact HR122.out) | (with_reducible refine Kd.C_alloc ?_ _) | (with_reducible refine Kd.C_drewN ?_ _) | (with_reducible refine Kd.C_drew ?_) | exact HR122.out)) | (with_reducible refine Kd.C_alloc ?_ _) | (with_reducible refine Kd.C_drewN ?_ _) | (with_reducible refine Kd.C_drew ?_))); (case side2 => exact HC122.out); rintro e w63 ⟨rfl, hb⟩; refine ⟨_, rfl, ?_⟩; have n0_ := Aside0.mk (Kd.R_below (by (with_reducible repeat (first | apply Kd.R_alloc | apply Kd.R_drewN | apply Kd.R_drew)); exact HO_7.out) hb); have n1_ := Aside0.mk (Kd.R_below (by (with_reducible repeat (first | apply Kd.R_alloc | apply Kd.R_drewN | apply Kd.R_drew)); exact HO_12.out) hb); have n2_ := Aside0.mk (Kd.C_below (by repeat (first | (with_reducible exact HR122.out) | (with_reducible refine Kd.C_alloc ?_ _) | (with_reducible refine Kd.C_drewN ?_ _) | (with_reducible refine Kd.C_drew ?_) | exact HR122.out)) hb); have n3_ := Aside0.mk (below_step (by repeat (first | (with_reducible first | exact HB.out | apply below_alloc | apply pw_below_drewN | apply below_drew1) | exact HB.out)) hb); clear HO_7; clear HO_12; clear HR122; clear HB; have HO_7 := n0_; have HO_12 := n1_; have HR122 := n2_; have HB := n3_; clear n0_ n1_ n2_ n3_; (try clear hb); (try clear hb2); (try clear hk); (try clear hi)))
                              go_ret
                              exact ⟨by first | rfl | (simp [errW_none, errW_some] <;> rfl) | (simp only [← hji8, ← hji10]; first | rfl | (simp [errW_none, errW_some] <;> rfl)) | (simp [*, errW_none, errW_some] <;> rfl), by repeat (first | (with_reducible first | exact HB.out | apply below_alloc | apply pw_below_drewN | apply below_drew1) | exact HB.out)⟩
                          · rw [if_neg c39] at H
                            exact absurd H (by simp)
                        · rw [if_neg c38] at H
                          exact absurd H (by simp)
          · rw [if_neg c15] at H
            exact absurd H (by simp)
        · rw [if_neg c14] at H
          exact absurd H (by simp)
      · rw [if_neg c13] at H
        exact absurd H (by simp)
    · rw [if_neg c12] at H
      exact absurd H (by simp)
  · rw [if_neg c11] at H
    exact absurd H (by simp)

/-- THE ONE PURE STATEMENT of corporalaw40_JournalTorn: yours. -/
def corporalaw40_JournalTorn.Pure : Prop := ∀ (l0 : List Int) (a1 : Int) (a2 : Int), l0.length ≤ maxLen → l0.length * 8 ≤ 140737488351232 → (∀ x ∈ l0, (Lit.int .i64 x).wf = true) → (Lit.int .i64 a1).wf = true → (Lit.int .i64 a2).wf = true → ∃ k, corporalaw40_JournalTorn.f k l0 a1 a2 = some true
theorem corporalaw40_JournalTorn.walk (P : corporalaw40_JournalTorn.Pure) (a0 : Option Addr) (len0 cap0 : Nat) (z0 : List Int) (a1 : Int) (a2 : Int) (w : World) (w0 : (a0 = none ∧ len0 = 0 ∧ cap0 = 0 ∧ z0 = []) ∨ ∃ x, a0 = some x ∧ len0 ≤ cap0 ∧ cap0 ≤ maxLen ∧ z0.length = cap0 ∧ (∀ i, i < z0.length → w.cell? (x.add i) = some (.int .i64 (z0.getD i 0))) ∧ ∀ n ∈ z0, (Lit.int .i64 n).wf = true) (y0 : len0 * 8 ≤ 140737488351232) (w1 : (Lit.int .i64 a1).wf = true) (w2 : (Lit.int .i64 a2).wf = true) :
    Calls Try.prog 4 #[.slice a0 len0 cap0, .int .i64 a1, .int .i64 a2] w fun e w' => e = .returned (.bool true) ∧ Below w.heap.size w w' := by
  obtain ⟨l0, rfl, hr0, hm0, hw0, hc0⟩ := ReadsInt.ofRowC w0
  obtain ⟨k, h⟩ := P l0 a1 a2 hm0 y0 hw0 w1 w2
  refine (corporalaw40_JournalTorn.calls k _ _ l0 a1 a2 true w (Kd.C_of_reads (d := (0 : Int)) (h1 := fun _ => rfl) hr0) hc0 h).mono ?_
  rintro e w' ⟨rfl, hd⟩
  exact ⟨rfl, hd⟩

end Go.Proofs.Ytnaddmkaakdhoaa.J
