/-
  Texts of this claim, joined, without what the claim does not use: XK
-/
import Derived.Test.YtnaddmkaakdhoaaSCAn
import Derived.Test.YtnaddmkaakdhoaaSDEe
section
namespace Go.Proofs.Ytnaddmkaakdhoaa.J
open Go.RowKit Go.Proofs.YtnaddmkaakdhoaaW.PrintWords Go.Proofs.YtnaddmkaakdhoaaW.PrintLast Go.Proofs.YtnaddmkaakdhoaaW.PrintMore
open Dk (Srt pos has valid app appAll applyAll Valid ent)
set_option linter.unusedVariables false
set_option linter.unusedSimpArgs false
theorem C22_three {w : World} {g : Nat} {a b c : Int} (h : w.heap[g]? = some (.cells #[.int .i64 a, .int .i64 b, .int .i64 c] 3 (0, 0))) : Kd.C (Kd.int .i64) w (some ⟨g, 0, none⟩) 3 [a, b, c] :=
  ⟨rfl, by omega, fun _ => ⟨_, rfl, fun j p hj => by
    refine ⟨_, rfl, rfl, fun i u hu => ?_⟩
    rw [Addr.add_lit, blk_cell h, show (Kd.int .i64).sz = 1 from rfl]
    match i, hu with
    | 0, hu =>
      match j, hj with
      | 0, hj => obtain rfl : a = p := by simpa using hj
                 simpa using hu
      | 1, hj => obtain rfl : b = p := by simpa using hj
                 simpa using hu
      | 2, hj => obtain rfl : c = p := by simpa using hj
                 simpa using hu
      | j + 3, hj => simp at hj
    | k + 1, hu => simp at hu⟩⟩
theorem C22_nil (w : World) : Kd.C (Kd.int .i64) w none 0 [] := ⟨rfl, by omega, fun h => by omega⟩
set_option maxHeartbeats 8000000 in
set_option maxRecDepth 100000 in
theorem example76_calls (w : World) :
    Calls Try.prog 76 #[] w fun e w' => ∃ v, e = .returned v ∧ DC w' v Dk.exD ∧ Below w.heap.size w w' := by
  obtain ⟨d, hd⟩ : ∃ d, d = Dk.exD := ⟨_, rfl⟩
  have AP := Aside0.mk (show applyAll Dk.E0 (Dk.exOps (⟨#[97]⟩ : ByteArray) ⟨#[120, 121]⟩ ⟨#[122, 119]⟩) = (Dk.exD, 0) from Dk.exD_apply)
  rw [← hd] at AP ⊢
  clear hd
  go_enter Try.func76, Try.ntmps76
  go_wp2_with fail
  obtain ⟨oS, hoS⟩ : ∃ o : Obj, o = .cells #[.slice none 0 0, .slice none 0 0, .slice none 0 0, .slice none 0 0] 47 := ⟨_, rfl⟩
  rw [← hoS]
  have hB := below_alloc (Below.refl w.heap.size w) oS
  have hS := blk_new w oS
  have hz : (w.alloc oS).heap.size = w.heap.size + 1 := by simp
  generalize w.alloc oS = w1 at hB hS hz ⊢
  subst hoS
  obtain ⟨S, hS'⟩ : ∃ S, S = w.heap.size := ⟨_, rfl⟩
  rw [← hS'] at hS hz ⊢
  have hTS : w.heap.size ≤ S := by omega
  clear hS'
  have HB := Aside0.mk hB
  have HS := Aside0.mk hS
  clear hB hS
  have kO := blk_new w1 (.cells (cs49 (Dk.exOps (⟨#[97]⟩ : ByteArray) ⟨#[120, 121]⟩ ⟨#[122, 119]⟩)).toArray 49)
  rw [hz] at kO
  have CO := C49_of (l := Dk.exOps (⟨#[97]⟩ : ByteArray) ⟨#[120, 121]⟩ ⟨#[122, 119]⟩) (by show 5 ≤ 1000000; omega) kO
  have AA := applyAll101_calls _ Dk.E0 (some ⟨S + 1, 0, none⟩) 5 (Dk.exOps (⟨#[97]⟩ : ByteArray) ⟨#[120, 121]⟩ ⟨#[122, 119]⟩) _ (DR.zero _ 0).reads CO (by show 5 ≤ 5; omega) ⟨Nat.zero_le _, Nat.zero_le _, Nat.zero_le _, Nat.zero_le _⟩ (by show 5 ≤ 20000; omega) (fun o ho => by
    simp only [Dk.exOps, List.mem_cons, List.not_mem_nil, or_false] at ho
    rcases ho with rfl | rfl | rfl | rfl | rfl <;> first | (show 2 ≤ _; omega) | (show 0 ≤ _; omega))
  rw [AP.out] at AA
  refine (AA : _).mono ?_
  rintro e w7 ⟨v, rfl, D7, B7⟩
  have SB7 := Aside0.mk (below_step (below_alloc HB.out _) B7)
  have S7 := Aside0.mk (blk_below (blk_alloc HS.out _) B7)
  obtain ⟨E0, d0, E1, d1, E2, d2, E3, d3, rfl, -⟩ := id D7
  have DD7 := Aside0.mk D7
  clear D7 B7 HB HS AA CO kO hz
  go_upto_region 2 with fail
  obtain ⟨oD, hoD⟩ : ∃ o : Obj, o = .cells #[.slice E0 d.ino.length d0, .slice E1 d.dir.length d1, .slice E2 d.dur.length d2, .slice E3 d.ops.length d3] 47 := ⟨_, rfl⟩
  rw [← hoD]
  have HB8 := Aside0.mk (below_alloc SB7.out oD)
  have S8 := Aside0.mk (blk_alloc S7.out oD)
  have D8 := Aside0.mk (DD7.out.below (below_alloc (Below.refl _ w7) oD))
  have N8 := Aside0.mk (blk_new w7 oD)
  generalize w7.alloc oD = w8 at HB8 S8 D8 N8 ⊢
  subst hoD
  clear SB7 S7 DD7
  have z0 := (blk_cell N8.out 0).trans rfl
  have z1 := (blk_cell N8.out 1).trans rfl
  have z2 := (blk_cell N8.out 2).trans rfl
  have z3 := (blk_cell N8.out 3).trans rfl
  have s0 := (blk_cell S8.out 0).trans rfl
  have s1 := (blk_cell S8.out 1).trans rfl
  have s2 := (blk_cell S8.out 2).trans rfl
  have s3 := (blk_cell S8.out 3).trans rfl
  have f0 := blk_frozen S8.out 0
  have f1 := blk_frozen S8.out 1
  have f2 := blk_frozen S8.out 2
  have f3 := blk_frozen S8.out 3
  go_wp2
  refine bodyPost_ret (results_cell_row rfl _ _ S 47 _ (0, 0) _ rfl (put47 S8.out _ _ _ _) Try.underlying47 rfl (by kernel_rfl)) rfl ?_
  exact ⟨_, rfl, D8.out.put47 S8.out ⟨_, _, _, rfl⟩ ⟨_, _, _, rfl⟩ ⟨_, _, _, rfl⟩ ⟨_, _, _, rfl⟩ _ _ _ _, below_put47 HB8.out hTS _ _ _ _⟩
set_option maxHeartbeats 8000000 in
set_option maxRecDepth 100000 in
theorem known43_calls (w : World) :
    Calls Try.prog 43 #[] w fun e w' => e = .returned (.bool true) ∧ Below w.heap.size w w' := by
  have CR := Aside0.mk (fun w' a' A c cs h' hC hc => crash_calls a' Dk.exD A c cs w' h' hC hc ⟨(by decide), (by decide), (by decide), (by decide)⟩)
  have RD := Aside0.mk (fun cs w' a' h' => read_calls a' (Dk.crash Dk.exD cs) Dk.exA w' h' ⟨Nat.le_trans (Dk.exD_sml cs).1 (by omega), Nat.le_trans (Dk.exD_sml cs).2.1 (by omega), Nat.le_trans (Dk.exD_sml cs).2.2.1 (by omega), Nat.le_trans (Dk.exD_sml cs).2.2.2 (by omega)⟩)
  have E7 := Aside0.mk (fun w' => example76_calls w')
  have X1 := Aside0.mk (Dk.exD_read [0, 1, 1])
  have X2 := Aside0.mk (Dk.exD_read [0, 2, 0])
  have X3 := Aside0.mk (Dk.exD_read [])
  rw [Dk.exD_1] at X1
  rw [Dk.exD_2] at X2
  rw [Dk.exD_3] at X3
  obtain ⟨d, hd⟩ : ∃ d, d = Dk.exD := ⟨_, rfl⟩
  rw [← hd] at CR RD E7 X1 X2 X3
  clear hd
  go_enter Try.func43, Try.ntmps43
  go_wp2_with fail
  refine (E7.out w).mono ?_
  rintro e w1 ⟨v1, rfl, D1, B1⟩
  have HD := Aside0.mk D1
  have HB := Aside0.mk B1
  clear D1 B1
  go_wp2_with fail
  have k1 := blk_new w1 (.cells #[.int .i64 0, .int .i64 1, .int .i64 1] 3)
  have b1 := below_alloc (Below.refl _ w1) (.cells #[.int .i64 0, .int .i64 1, .int .i64 1] 3)
  refine (CR.out _ v1 (some ⟨w1.heap.size, 0, none⟩) 3 [0, 1, 1] (HD.out.below b1) (C22_three k1) (by decide)).mono ?_
  rintro e w2 ⟨v2, rfl, D2, B2⟩
  have HD2 := Aside0.mk D2.reads
  have HB2 := Aside0.mk (below_step (below_step HB.out b1) B2)
  clear D2 B2 k1 b1 HD HB
  go_wp2_with fail
  refine (RD.out _ w2 v2 HD2.out).mono ?_
  rintro e w3 ⟨rfl, B3⟩
  have HB3 := Aside0.mk (below_step HB2.out B3)
  rw [X1.out]
  clear B3 HD2 HB2
  go_wp2_with fail
  refine (E7.out w3).mono ?_
  rintro e w4 ⟨v4, rfl, D1, B1⟩
  have HD := Aside0.mk D1
  have HB := Aside0.mk (below_step HB3.out B1)
  clear D1 B1 HB3
  go_wp2_with fail
  have k1 := blk_new w4 (.cells #[.int .i64 0, .int .i64 2, .int .i64 0] 3)
  have b1 := below_alloc (Below.refl _ w4) (.cells #[.int .i64 0, .int .i64 2, .int .i64 0] 3)
  refine (CR.out _ v4 (some ⟨w4.heap.size, 0, none⟩) 3 [0, 2, 0] (HD.out.below b1) (C22_three k1) (by decide)).mono ?_
  rintro e w5 ⟨v5, rfl, D2, B2⟩
  have HD2 := Aside0.mk D2.reads
  have HB2 := Aside0.mk (below_step (below_step HB.out b1) B2)
  clear D2 B2 k1 b1 HD HB
  go_wp2_with fail
  refine (RD.out _ w5 v5 HD2.out).mono ?_
  rintro e w6 ⟨rfl, B3⟩
  have HB3 := Aside0.mk (below_step HB2.out B3)
  rw [X2.out]
  clear B3 HD2 HB2
  go_wp2_with fail
  refine (E7.out w6).mono ?_
  rintro e w7 ⟨v7, rfl, D1, B1⟩
  have HD := Aside0.mk D1
  have HB := Aside0.mk (below_step HB3.out B1)
  clear D1 B1 HB3
  go_wp2_with fail
  refine (CR.out _ v7 none 0 [] HD.out (C22_nil _) (by decide)).mono ?_
  rintro e w8 ⟨v8, rfl, D2, B2⟩
  have HD2 := Aside0.mk D2.reads
  have HB2 := Aside0.mk (below_step HB.out B2)
  clear D2 B2 HD HB
  go_wp2_with fail
  refine (RD.out _ w8 v8 HD2.out).mono ?_
  rintro e w9 ⟨rfl, B3⟩
  have HB3 := Aside0.mk (below_step HB2.out B3)
  rw [X3.out]
  clear B3 HD2 HB2
  go_wp2
  go_ret
  exact ⟨rfl, HB3.out⟩
end Go.Proofs.Ytnaddmkaakdhoaa.J

end
