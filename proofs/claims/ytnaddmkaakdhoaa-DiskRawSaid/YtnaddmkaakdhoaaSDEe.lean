/-
  Texts of this claim, joined, without what the claim does not use: XLa XKa
-/
import Derived.Test.YtnaddmkaakdhoaaSCAn
import Derived.Test.YtnaddmkaakdhoaaSDEc
section
namespace Go.Proofs.Ytnaddmkaakdhoaa.J
open Go.RowKit Go.Proofs.YtnaddmkaakdhoaaW.PrintWords Go.Proofs.YtnaddmkaakdhoaaW.PrintLast Go.Proofs.YtnaddmkaakdhoaaW.PrintMore
set_option linter.unusedVariables false
set_option linter.unusedSimpArgs false
def cs49 : List S49 → List Value
  | [] => []
  | x :: l => .int .i64 x.f0 :: .string x.f1 :: .string x.f2 :: .string x.f3 :: cs49 l
theorem cs49_get : ∀ (l : List S49) (j : Nat) (p : S49), l[j]? = some p → ∀ (i : Nat) (u : Value), ([.int .i64 p.f0, .string p.f1, .string p.f2, .string p.f3] : List Value)[i]? = some u → (cs49 l)[j * 4 + i]? = some u
  | [], j, p, h, _, _, _ => by simp at h
  | x :: l, 0, p, h, i, u, hu => by
    obtain rfl : x = p := by simpa using h
    rw [Nat.zero_mul, Nat.zero_add]
    match i, hu with
    | 0, hu => exact hu
    | 1, hu => exact hu
    | 2, hu => exact hu
    | 3, hu => exact hu
    | k + 4, hu => simp at hu
  | x :: l, j + 1, p, h, i, u, hu => by
    have := cs49_get l j p (by simpa using h) i u hu
    rw [show (j + 1) * 4 + i = (j * 4 + i) + 4 by omega]
    simpa [cs49] using this
theorem C49_of {w : World} {g : Nat} {l : List S49} (hl : l.length ≤ 1000000) (h : w.heap[g]? = some (.cells (cs49 l).toArray 49 (0, 0))) : Kd.C k49 w (some ⟨g, 0, none⟩) l.length l :=
  ⟨rfl, by omega, fun _ => ⟨_, rfl, fun j p hj => by
    refine ⟨_, rfl, k49_mk w p, fun i u hu => ?_⟩
    rw [Addr.add_lit]
    rw [show w.cell? ⟨g, 0 + (j * k49.sz + i), none⟩ = (cs49 l).toArray[0 + (j * k49.sz + i)]? from blk_cell h _]
    have := cs49_get l j p hj i u hu
    rw [List.getElem?_toArray]
    rw [show k49.sz = 4 from rfl, Nat.zero_add]
    exact this⟩⟩
end Go.Proofs.Ytnaddmkaakdhoaa.J

end
section
namespace Go.Proofs.Ytnaddmkaakdhoaa.Dk
open J
def exA : ByteArray := ⟨#[97]⟩
def exD : Dsk := exDsk exA ⟨⟨#[120, 121]⟩ ++ ⟨#[122, 119]⟩, (2 : Nat)⟩
theorem exA_ok : vname exA = true := by decide
theorem exD_apply : applyAll E0 (exOps exA ⟨#[120, 121]⟩ ⟨#[122, 119]⟩) = (exD, 0) := ex_apply exA ⟨#[120, 121]⟩ ⟨#[122, 119]⟩ exA_ok (by decide)
theorem exD_ino : inoOK ⟨⟨#[120, 121]⟩ ++ ⟨#[122, 119]⟩, (2 : Nat)⟩ := ⟨by decide, by decide, by decide⟩
theorem exD_read (cs : List Int) : read (crash exD cs) exA = ((torn cs 0 ⟨⟨#[120, 121]⟩ ++ ⟨#[122, 119]⟩, (2 : Nat)⟩).f0, 0) := by
  unfold exD
  rw [ex_crash _ _ exA_ok exD_ino, ex_read _ _ exA_ok (torn_ok cs 0 exD_ino)]
theorem exD_sml (cs : List Int) : Sml 1 (crash exD cs) := by
  unfold exD
  rw [ex_crash _ _ exA_ok exD_ino]
  exact ⟨Nat.le_refl _, Nat.le_refl _, Nat.le_refl _, Nat.zero_le _⟩
theorem exD_1 : (torn [0, 1, 1] 0 ⟨⟨#[120, 121]⟩ ++ ⟨#[122, 119]⟩, (2 : Nat)⟩).f0 = ⟨#[120, 121, 0]⟩ := by decide
theorem exD_2 : (torn [0, 2, 0] 0 ⟨⟨#[120, 121]⟩ ++ ⟨#[122, 119]⟩, (2 : Nat)⟩).f0 = ⟨#[120, 121, 122, 119]⟩ := by decide
theorem exD_3 : (torn [] 0 ⟨⟨#[120, 121]⟩ ++ ⟨#[122, 119]⟩, (2 : Nat)⟩).f0 = ⟨#[120, 121]⟩ := by decide
end Go.Proofs.Ytnaddmkaakdhoaa.Dk

end
