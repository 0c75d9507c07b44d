/-
  Texts of this claim, joined, without what the claim does not use: XSh XDC
-/
import Derived.Shelf.Strings.Repeat
import Derived.Test.YtnaddmkaakdhoaaProg
import Derived.Test.YtnaddmkaakdhoaaSCAj
section
namespace Go.Proofs
open Go.Shelf
def Try.lays105_ren : Go.Shelf.Ren := ⟨fun | 105 => 73 | 212 => 95 | 99 => 96 | 165 => 97 | 166 => 98 | 170 => 99 | 169 => 100 | 263 => 107 | 264 => 108 | 206 => 109 | 240 => 110 | 241 => 111 | 276 => 115 | 277 => 116 | n => n, fun | 9 => 9 | 3 => 3 | 4 => 4 | 20 => 20 | 0 => 0 | 46 => 108 | 109 => 120 | 5 => 5 | 72 => 125 | 76 => 129 | 51 => 78 | 146 => 136 | 53 => 138 | 148 => 139 | 70 => 123 | 37 => 39 | 75 => 128 | 127 => 141 | 164 => 144 | 80 => 132 | n => n, fun | n => n⟩
theorem Try.lays105 : Go.Proofs.Lays.n105 Try.prog Try.lays105_ren := {
  mixed := by kernel_rfl
  f99 := Try.func96.trans (congrArg some (by kernel_rfl))
  f105 := Try.func73.trans (congrArg some (by kernel_rfl))
  f165 := Try.func97.trans (congrArg some (by kernel_rfl))
  f166 := Try.func98.trans (congrArg some (by kernel_rfl))
  f169 := Try.func100.trans (congrArg some (by kernel_rfl))
  f170 := Try.func99.trans (congrArg some (by kernel_rfl))
  f206 := Try.func109.trans (congrArg some (by kernel_rfl))
  f212 := Try.func95.trans (congrArg some (by kernel_rfl))
  f240 := Try.func110.trans (congrArg some (by kernel_rfl))
  f241 := Try.func111.trans (congrArg some (by kernel_rfl))
  f263 := Try.func107.trans (congrArg some (by kernel_rfl))
  f264 := Try.func108.trans (congrArg some (by kernel_rfl))
  f276 := Try.func115.trans (congrArg some (by kernel_rfl))
  f277 := Try.func116.trans (congrArg some (by kernel_rfl))
  t0 := Try.underlying0
  a0 := Try.isAgg0
  z0 := Try.sizeOf0
  v0 := Try.zeroValue0
  t3 := Try.underlying3
  a3 := Try.isAgg3
  z3 := Try.sizeOf3
  v3 := Try.zeroValue3
  t4 := Try.underlying4
  a4 := Try.isAgg4
  z4 := Try.sizeOf4
  v4 := Try.zeroValue4
  t5 := Try.underlying5
  a5 := Try.isAgg5
  z5 := Try.sizeOf5
  v5 := Try.zeroValue5
  t9 := Try.underlying9
  a9 := Try.isAgg9
  z9 := Try.sizeOf9
  v9 := Try.zeroValue9
  t20 := Try.underlying20
  a20 := Try.isAgg20
  z20 := Try.sizeOf20
  v20 := Try.zeroValue20
  t37 := Try.underlying39
  a37 := Try.isAgg39
  z37 := Try.sizeOf39
  v37 := Try.zeroValue39
  t46 := Try.underlying108
  a46 := Try.isAgg108
  z46 := Try.sizeOf108
  v46 := Try.zeroValue108
  t51 := Try.underlying78
  a51 := Try.isAgg78
  z51 := Try.sizeOf78
  v51 := Try.zeroValue78
  t53 := Try.underlying138
  a53 := Try.isAgg138
  z53 := Try.sizeOf138
  v53 := Try.zeroValue138
  t70 := Try.underlying123
  a70 := Try.isAgg123
  z70 := Try.sizeOf123
  v70 := Try.zeroValue123
  t72 := Try.underlying125
  a72 := Try.isAgg125
  z72 := Try.sizeOf125
  v72 := Try.zeroValue125
  t75 := Try.underlying128
  a75 := Try.isAgg128
  z75 := Try.sizeOf128
  v75 := Try.zeroValue128
  t76 := Try.underlying129
  a76 := Try.isAgg129
  z76 := Try.sizeOf129
  v76 := Try.zeroValue129
  t109 := Try.underlying120
  a109 := Try.isAgg120
  z109 := Try.sizeOf120
  v109 := Try.zeroValue120
  t127 := Try.underlying141
  a127 := Try.isAgg141
  z127 := Try.sizeOf141
  v127 := Try.zeroValue141
  t146 := Try.underlying136
  a146 := Try.isAgg136
  z146 := Try.sizeOf136
  v146 := Try.zeroValue136
  t148 := Try.underlying139
  a148 := Try.isAgg139
  z148 := Try.sizeOf139
  v148 := Try.zeroValue139
  t164 := Try.underlying144
  a164 := Try.isAgg144
  z164 := Try.sizeOf144
  v164 := Try.zeroValue144 }
theorem Try.Builder_Extra_105 : Builder.Extra Try.prog Try.lays105_ren := {
  sizeBuilder := by kernel_rfl
  liesBuilder := by kernel_rfl
  t5 := Try.underlying5
  a5 := Try.isAgg5
  z5 := Try.sizeOf5
  v5 := Try.zeroValue5
  infoByte := by kernel_rfl
  cellsByte := by kernel_rfl
  sizeByte := by kernel_rfl
  neB5 := by decide }
open Go.RowKit Go.Lib in
theorem Try.strings_Repeat (s : ByteArray) (c : Nat) (w : World) (hc : c ≤ 9223372036854775807) (hlen : s.size * c ≤ 140737488355328) :
    Calls Try.prog 73 #[.string s, .int .i64 c] w fun e w' => e = .returned (.string ⟨(Lib.repeatL s.data.toList c).toArray⟩) ∧ Below w.heap.size w w' := Any.strings_Repeat Try.lays105 Try.Builder_Extra_105 s c w hc hlen
end Go.Proofs

end
section
namespace Go.Proofs.Ytnaddmkaakdhoaa.Dk
open J Go.Proofs.YtnaddmkaakdhoaaW.PrintWords
def chs (cs : List Int) (i n : Nat) : Nat := (cs.getD i 0 % (n : Int)).toNat
theorem chs_lt (cs : List Int) (i : Nat) {n : Nat} (hn : 0 < n) : chs cs i n < n := by
  unfold chs
  have h1 := Int.emod_nonneg (cs.getD i 0) (show (n : Int) ≠ 0 by omega)
  have h2 := Int.emod_lt_of_pos (cs.getD i 0) (show (0 : Int) < n by omega)
  omega
theorem chs_tmod (x : Int) {n : Nat} (hn : 0 < n) : Int.tmod (Int.tmod x n + n) n = ((x % (n : Int)).toNat : Int) := by
  have h1 := Int.emod_nonneg x (show (n : Int) ≠ 0 by omega)
  have h2 := Int.emod_lt_of_pos x (show (0 : Int) < n by omega)
  rw [Int.toNat_of_nonneg h1]
  have hb : -(n : Int) < Int.tmod x n ∧ Int.tmod x n < n := by
    have a := Int.tmod_lt_of_pos x (show (0 : Int) < n by omega)
    have b := Int.lt_tmod_of_pos x (show (0 : Int) < n by omega)
    exact ⟨b, a⟩
  have hnn : 0 ≤ Int.tmod x n + n := by omega
  rw [Int.tmod_eq_emod_of_nonneg hnn, Int.add_emod_right]
  have e2 := Int.tmod_add_mul_tdiv x n
  conv => rhs; rw [← e2]
  rw [Int.add_mul_emod_self_left]
def zeros (z : Nat) : ByteArray := ⟨(Lib.repeatL [0] z).toArray⟩
theorem zeros_size (z : Nat) : (zeros z).size = z := by
  show (Lib.repeatL [0] z).toArray.size = z
  rw [List.size_toArray, Lib.repeatL_length]
  simp
def kp (cs : List Int) (j : Nat) (x : S67) : Nat := chs cs (2 * j + 1) (x.f0.size - x.f1.toNat + 1)
def zr (cs : List Int) (j : Nat) (x : S67) : Nat := chs cs (2 * j + 2) (min (kp cs j x) 4 + 1)
def torn (cs : List Int) (j : Nat) (x : S67) : S67 := ⟨x.f0.extract 0 (x.f1.toNat + kp cs j x - zr cs j x) ++ zeros (zr cs j x), ((x.f1.toNat + kp cs j x : Nat) : Int)⟩
def crash (d : Dsk) (cs : List Int) : Dsk :=
  if valid d = true then settle ⟨d.ino.mapIdx (torn cs), (repd (rep d.dur ((d.ino.length : Int) - (crt d.ops : Nat)) (d.ops.take (chs cs 0 (d.ops.length + 1))))).1, d.dur, d.ops⟩ else E0
theorem kp_le (cs : List Int) (j : Nat) (x : S67) (h : x.f1 ≤ x.f0.size) : x.f1.toNat + kp cs j x ≤ x.f0.size := by
  have := chs_lt cs (2 * j + 1) (n := x.f0.size - x.f1.toNat + 1) (by omega)
  unfold kp
  omega
theorem zr_le (cs : List Int) (j : Nat) (x : S67) : zr cs j x ≤ min (kp cs j x) 4 := by
  have := chs_lt cs (2 * j + 2) (n := min (kp cs j x) 4 + 1) (by omega)
  unfold zr
  omega
theorem torn_size (cs : List Int) (j : Nat) (x : S67) (h : x.f1 ≤ x.f0.size) : (torn cs j x).f0.size = x.f1.toNat + kp cs j x := by
  have h1 := kp_le cs j x h
  have h2 := zr_le cs j x
  show (x.f0.extract 0 (x.f1.toNat + kp cs j x - zr cs j x) ++ zeros (zr cs j x)).size = _
  rw [ByteArray.size_append, ByteArray.size_extract, zeros_size]
  omega
theorem torn_ok (cs : List Int) (j : Nat) {x : S67} (h : inoOK x) : inoOK (torn cs j x) := by
  have h1 := torn_size cs j x h.2.1
  have h2 := kp_le cs j x h.2.1
  refine ⟨Int.natCast_nonneg _, ?_, ?_⟩
  · rw [h1]; exact Int.le_refl _
  · rw [h1]; exact Nat.le_trans h2 h.2.2
end Go.Proofs.Ytnaddmkaakdhoaa.Dk
namespace Go.Proofs.Ytnaddmkaakdhoaa.J
open Go.RowKit Go.Proofs.YtnaddmkaakdhoaaW.PrintWords Go.Proofs.YtnaddmkaakdhoaaW.PrintLast Go.Proofs.YtnaddmkaakdhoaaW.PrintMore
open Dk (chs)
set_option linter.unusedVariables false
set_option linter.unusedSimpArgs false
set_option maxHeartbeats 8000000 in
set_option maxRecDepth 100000 in
theorem choice71_calls (cs : List Int) (A : Option Addr) (cc C i n : Nat) (w : World) (hC : w.cell? ⟨C, 0, none⟩ = some (.slice A cs.length cc)) (hr : Kd.C (Kd.int .i64) w A cs.length cs) (hn : 0 < n) (hn2 : n ≤ 100000000) (hi : i ≤ 100000000) :
    Calls Try.prog 71 #[.int .i64 (i : Nat), .int .i64 (n : Nat), .pointer (some ⟨C, 0, none⟩)] w fun e w' => e = .returned (.int .i64 (chs cs i n : Nat)) ∧ w' = w := by
  obtain ⟨r, hrr⟩ : ∃ r, r = chs cs i n := ⟨_, rfl⟩
  rw [← hrr]
  have RR := Aside0.mk hrr
  have HR := Aside0.mk hr
  have hcl : cs.length ≤ 9223372036854775807 := hr.2.1
  clear hrr hr
  by_cases hlt : i < cs.length
  · obtain ⟨ad, ea, hx⟩ := Kd.at_int HR.out (i : Int) (by omega) (by omega)
    cases ea
    obtain ⟨x, hxe⟩ : ∃ x, x = rd cs (i : Int) := ⟨_, rfl⟩
    rw [← hxe] at hx
    replace hx : w.cell? (ad.add i) = some (.int .i64 x) := hx
    have E := Aside0.mk (show (r : Int) = Int.tmod (Int.tmod x n + n) n from by
      rw [RR.out, Dk.chs_tmod x hn]
      unfold Dk.chs
      rw [show cs.getD i 0 = x from by rw [hxe]; rfl])
    clear hxe RR
    have a := Int.tmod_lt_of_pos x (show (0 : Int) < n by omega)
    have b := Int.lt_tmod_of_pos x (show (0 : Int) < n by omega)
    have hw : wrap64 (Int.tmod x n + n) = Int.tmod x n + n := by unfold wrap64; omega
    have hn0 : ((n : Int) == 0) = false := beq_eq_false_iff_ne.2 (by omega)
    have hd : decide ((cs.length : Int) ≤ (i : Int)) = false := decide_eq_false (by omega)
    have hi0 : (0 : Int) ≤ (i : Int) := by omega
    have hi1 : (i : Int) < (cs.length : Int) := by omega
    clear a b
    go_enter Try.func71, Try.ntmps71
    go_wp2
    go_ret
    exact ⟨by rw [E.out]; rfl, rfl⟩
  · have e : r = 0 := by
      rw [RR.out]
      unfold Dk.chs
      rw [List.getD_eq_getElem?_getD, List.getElem?_eq_none (by omega)]
      simp
    subst e
    have hd : decide ((cs.length : Int) ≤ (i : Int)) = true := decide_eq_true (by omega)
    clear RR
    go_enter Try.func71, Try.ntmps71
    go_wp2
    go_ret
    exact ⟨rfl, rfl⟩
end Go.Proofs.Ytnaddmkaakdhoaa.J

end
