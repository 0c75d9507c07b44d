/-
  Encoding of records: the reference and the program come to the bytes of a record, plainly.
-/
import Derived.Test.YtnaddmkaakdhoaaJC
import Derived.Test.YtnaddmkaakdhoaaJD
import Derived.Test.YtnaddmkaakdhoaaXPb
namespace Go.Proofs.Ytnaddmkaakdhoaa.J
open Go.RowKit Go.Proofs.YtnaddmkaakdhoaaW.PrintWords Go.Proofs.YtnaddmkaakdhoaaW.PrintLast Go.Proofs.YtnaddmkaakdhoaaW.PrintMore
open Jl
open Crc (Byte W32 stN upd crc)
set_option linter.unusedVariables false
set_option linter.unusedSimpArgs false

/-! ### the reference's sum -/
theorem rstep_l0 : ∀ (d : Nat) (v : W32) (i k : Nat), i ≤ 8 → 8 - i = d → d < k → corporaref03_step.l0 k (v.toNat : Int) (i : Int) = some ((stN d v).toNat : Int)
  | 0, v, i, k, hi, hd, hk => by
    obtain ⟨k, rfl⟩ : ∃ m, k = m + 1 := ⟨k - 1, by omega⟩
    simp only [corporaref03_step.l0]
    rw [if_neg (by omega)]
    rfl
  | d + 1, v, i, k, hi, hd, hk => by
    obtain ⟨k, rfl⟩ : ∃ m, k = m + 1 := ⟨k - 1, by omega⟩
    have ih := rstep_l0 d (Crc.st1 v) (i + 1) k (by omega) (by omega) (by omega)
    simp only [corporaref03_step.l0]
    rw [if_pos (by omega), show wrap64 ((i : Int) + 1) = ((i + 1 : Nat) : Int) by unfold wrap64; omega]
    have s := step_one v
    by_cases h : Go.bits .and .u32 (v.toNat : Int) 1 = 1
    · rw [if_pos h] at s ⊢
      rw [s]; exact ih
    · rw [if_neg h] at s ⊢
      rw [s]; exact ih
theorem rstep_f (v : W32) (k : Nat) (hk : 8 < k) : corporaref03_step.f k (v.toNat : Int) = some ((stN 8 v).toNat : Int) := rstep_l0 8 v 0 k (by omega) (by omega) hk

theorem rsum_l0 (l : List Int) (hl : l.length ≤ 140737488355328) : ∀ (d : Nat) (v : W32) (i k : Nat), i ≤ l.length → l.length - i = d → d + 10 < k →
    corporaref03_Sum.l0 k (v.toNat : Int) l (l.length : Int) (i : Int) = some ((~~~ (crc v (l.drop i))).toNat : Int)
  | 0, v, i, k, hi, hd, hk => by
    obtain ⟨k, rfl⟩ : ∃ m, k = m + 1 := ⟨k - 1, by omega⟩
    simp only [corporaref03_Sum.l0]
    rw [if_neg (by omega), List.drop_eq_nil_of_le (by omega), Crc.xor_u32, Crc.ofInt_toNat, show BitVec.ofInt 32 4294967295 = BitVec.allOnes 32 from rfl, BitVec.allOnes_xor]
    rfl
  | d + 1, v, i, k, hi, hd, hk => by
    obtain ⟨k, rfl⟩ : ∃ m, k = m + 1 := ⟨k - 1, by omega⟩
    have hlt : i < l.length := by omega
    have ih := rsum_l0 l hl d (upd v (BitVec.ofInt 32 (rd l i))) (i + 1) k (by omega) (by omega) (by omega)
    simp only [corporaref03_Sum.l0]
    rw [if_pos (by omega), if_pos (by omega), if_pos (by omega), Crc.xor_u32, Crc.ofInt_toNat, Crc.ofInt_mod, rstep_f _ k (by omega), Option.bind_some, show wrap64 ((i : Int) + 1) = ((i + 1 : Nat) : Int) by unfold wrap64; omega]
    rw [List.drop_eq_getElem_cons hlt, Crc.crc_cons]
    have e : rd l i = l[i] := by simp [rd, hlt]
    rw [e] at ih ⊢
    exact ih
theorem rsum_f (l : List Int) (hl : l.length ≤ 140737488355328) : Ev (fun k => corporaref03_Sum.f k l) (Crc.sum l) :=
  ⟨l.length + 11, fun k hk => rsum_l0 l hl l.length (BitVec.allOnes 32) 0 k (by omega) (by omega) (by omega)⟩

/-! ### one record -/
/-- The bytes and the error of a record. -/
def encE (kind : Int) (p : ByteArray) : ByteArray × Int :=
  if kind = 1 ∨ kind = 2 then (if (p.size : Int) > 1048576 then (⟨#[]⟩, 2) else (strOfNums (encL kind (bytesOf p)), 0)) else (⟨#[]⟩, 1)

theorem four_f (n : Int) : corporaref40_four.f n = some (strOfNums (be4 n)) := rfl
theorem str_app (a b : List Int) : strOfNums (a ++ b) = strOfNums a ++ strOfNums b := by
  unfold strOfNums
  rw [ByteArray.mk_append_mk]
  simp
theorem str_size (a : List Int) : (strOfNums a).size = a.length := strOfNums_size a

theorem rsumr_f (kind : Int) (hk : kind = 1 ∨ kind = 2) (p : ByteArray) (hp : p.size ≤ 1048576) : Ev (fun k => corporaref40_sum.f k kind p) (strOfNums (be4 (Crc.sum (kind :: bytesOf p)))) := by
  have e : kind % 256 = kind := by omega
  unfold corporaref40_sum.f
  simp only [Option.bind_some, e]
  refine Ev.congr (fun k => if_pos (by simp; omega)) ?_
  refine Ev.bind (rsum_f ([kind] ++ bytesOf p) (by rw [List.length_append, bytesOf_length]; simp; omega)) ?_
  simp only [four_f, Option.bind_some]
  exact Ev.now _

theorem enc_str (kind : Int) (p : ByteArray) : strOfNums (encL kind (bytesOf p)) = ((strOfNums (be4 p.size) ++ strOfNums (be4 (Crc.sum (kind :: bytesOf p)))) ++ strOfNums [kind]) ++ p := by
  unfold encL
  rw [bytesOf_length, show kind :: bytesOf p = [kind] ++ bytesOf p from rfl, ← List.append_assoc, str_app, str_app, str_app, str_bytesOf]

theorem renc_f (kind : Int) (p : ByteArray) : Ev (fun k => corporaref40_Encode.f k kind p) (encE kind p) := by
  have key : (kind = 1 ∨ kind = 2) → Ev (fun k => corporaref40_Encode.j0 k false kind p) (encE kind p) := by
    intro hk
    have e : kind % 256 = kind := by omega
    unfold encE
    rw [if_pos hk]
    refine Ev.step (fun k => by simp only [corporaref40_Encode.j0]; exact rfl) ?_
    refine Ev.congr (fun k => if_neg (by simp)) ?_
    by_cases c : (p.size : Int) > 1048576
    · refine Ev.congr (fun k => if_pos c) ?_
      rw [if_pos c]
      exact Ev.now _
    · refine Ev.congr (fun k => if_neg c) ?_
      rw [if_neg c, four_f, show (p.size : Int) % 4294967296 = p.size by omega]
      refine Ev.bind (Ev.now _) ?_
      refine Ev.bind (rsumr_f kind hk p (by omega)) ?_
      have z1 : (strOfNums (be4 p.size)).size = 4 := str_size _
      have z2 : (strOfNums (be4 (Crc.sum (kind :: bytesOf p)))).size = 4 := str_size _
      have z3 : (strOfNums [kind]).size = 1 := str_size _
      refine Ev.congr (fun k => if_pos (by omega)) ?_
      simp only [Option.bind_some, e]
      refine Ev.congr (fun k => if_pos (by rw [ByteArray.size_append]; omega)) ?_
      refine Ev.congr (fun k => if_pos (by rw [ByteArray.size_append, ByteArray.size_append]; omega)) ?_
      rw [enc_str]
      exact Ev.now _
  unfold corporaref40_Encode.f
  by_cases h1 : kind = 1
  · refine Ev.congr (fun k => if_pos h1) ?_
    exact key (.inl h1)
  · refine Ev.congr (fun k => if_neg h1) ?_
    by_cases h2 : kind = 2
    · have : (kind != 2) = false := by simp [h2]
      rw [this]
      exact key (.inr h2)
    · have : (kind != 2) = true := by simp [h2]
      rw [this]
      refine Ev.step (fun k => by simp only [corporaref40_Encode.j0]; exact rfl) ?_
      refine Ev.congr (fun k => if_pos trivial) ?_
      unfold encE
      rw [if_neg (by omega)]
      exact Ev.now _

theorem put_f (l : List Int) (n : Int) (h : l.length ≤ 1000) : journal_put.f l n = some (l ++ be4 n) := by
  unfold journal_put.f
  simp only [Option.bind_some]
  rw [if_pos (by simp; omega)]
  rfl

theorem penc_f (kind : Int) (p : ByteArray) : Ev (fun k => journal_Encode.f k kind p) (encE kind p) := by
  have key : (kind = 1 ∨ kind = 2) → Ev (fun k => journal_Encode.j0 k false kind p) (encE kind p) := by
    intro hk
    have e : kind % 256 = kind := by omega
    unfold encE
    rw [if_pos hk]
    refine Ev.step (fun k => by simp only [journal_Encode.j0]; exact rfl) ?_
    refine Ev.congr (fun k => if_neg (by simp)) ?_
    by_cases c : (p.size : Int) > 1048576
    · refine Ev.congr (fun k => if_pos c) ?_
      rw [if_pos c]
      exact Ev.now _
    · refine Ev.congr (fun k => if_neg c) ?_
      rw [if_neg c, show (p.size : Int) % 4294967296 = p.size by omega]
      simp only [Option.bind_some, e]
      have z3 : (strOfNums [kind]).size = 1 := str_size _
      have z4 : (strOfNums [kind] ++ p).size = 1 + p.size := by rw [ByteArray.size_append, z3]
      have hb : bytesOf (strOfNums [kind] ++ p) = kind :: bytesOf p := by
        rw [bytesOf_app, bytesOf_str]
        · rfl
        · intro c hc
          rw [List.mem_singleton.1 hc]
          unfold Byte
          omega
      refine Ev.congr (fun k => if_pos (by omega)) ?_
      rw [put_f [] _ (by simp)]
      simp only [Option.bind_some]
      rw [sum_f _ (by omega), hb]
      simp only [Option.bind_some]
      rw [put_f _ _ (by simp [be4_len])]
      simp only [Option.bind_some, List.nil_append]
      have z5 : (strOfNums (be4 p.size ++ be4 (Crc.sum (kind :: bytesOf p)))).size = 8 := str_size _
      refine Ev.congr (fun k => if_pos (by omega)) ?_
      rw [enc_str, str_app, ByteArray.append_assoc, ByteArray.append_assoc, ByteArray.append_assoc]
      exact Ev.now _
  unfold journal_Encode.f
  by_cases h1 : kind = 1
  · refine Ev.congr (fun k => if_pos h1) ?_
    exact key (.inl h1)
  · refine Ev.congr (fun k => if_neg h1) ?_
    by_cases h2 : kind = 2
    · have : (kind != 2) = false := by simp [h2]
      rw [this]
      exact key (.inr h2)
    · have : (kind != 2) = true := by simp [h2]
      rw [this]
      refine Ev.step (fun k => by simp only [journal_Encode.j0]; exact rfl) ?_
      refine Ev.congr (fun k => if_pos trivial) ?_
      unfold encE
      rw [if_neg (by omega)]
      exact Ev.now _

theorem encE_good {r : S37} (h : Jl.Good (toR r)) : encE r.f0 r.f1 = (strOfNums (encL (toR r).1 (toR r).2), 0) := by
  have h1 : r.f0 = 1 ∨ r.f0 = 2 := h.1
  have h2 : (bytesOf r.f1).length ≤ 1048576 := h.2.1
  rw [bytesOf_length] at h2
  unfold encE
  rw [if_pos h1, if_neg (by omega)]
  rfl

/-! ### all records -/
/-- The bytes and the error of records. -/
def encAll : List S37 → ByteArray → ByteArray × Int
  | [], b => (b, 0)
  | r :: l, b => if (encE r.f0 r.f1).2 = 0 then encAll l (b ++ (encE r.f0 r.f1).1) else (⟨#[]⟩, (encE r.f0 r.f1).2)

theorem encE_size (kind : Int) (p : ByteArray) : (encE kind p).1.size ≤ 1048585 := by
  unfold encE
  split
  · split
    · simp [ByteArray.size]
    · rw [str_size, encL_len, bytesOf_length]; omega
  · simp [ByteArray.size]

theorem renc_l0 (l : List S37) (hl : l.length ≤ 1000) : ∀ (d : Nat) (b : ByteArray) (i : Nat), i ≤ l.length → l.length - i = d → b.size ≤ i * 1048585 →
    Ev (fun k => corporaref40_EncodeAll.l0 k b l (l.length : Int) (i : Int)) (encAll (l.drop i) b)
  | 0, b, i, hi, hd, hb => by
    refine Ev.step (fun k => by simp only [corporaref40_EncodeAll.l0]; exact rfl) ?_
    refine Ev.congr (fun k => if_neg (by omega)) ?_
    rw [List.drop_eq_nil_of_le (by omega)]
    exact Ev.now _
  | d + 1, b, i, hi, hd, hb => by
    have hlt : i < l.length := by omega
    have e : rd_T37 l i = l[i] := by simp [rd_T37, hlt]
    rw [List.drop_eq_getElem_cons hlt]
    refine Ev.step (fun k => by simp only [corporaref40_EncodeAll.l0]; exact rfl) ?_
    refine Ev.congr (fun k => if_pos (by omega)) ?_
    refine Ev.congr (fun k => if_pos (by omega)) ?_
    refine Ev.congr (fun k => if_pos (by omega)) ?_
    rw [e]
    refine Ev.bind (renc_f _ _) ?_
    have hs := encE_size l[i].f0 l[i].f1
    simp only [encAll]
    by_cases c : (encE l[i].f0 l[i].f1).2 = 0
    · refine Ev.congr (fun k => if_pos c) ?_
      rw [if_pos c, show wrap64 ((i : Int) + 1) = ((i + 1 : Nat) : Int) by unfold wrap64; omega]
      refine Ev.congr (fun k => if_pos (by omega)) ?_
      exact renc_l0 l hl d _ (i + 1) (by omega) (by omega) (by rw [ByteArray.size_append]; omega)
    · refine Ev.congr (fun k => if_neg c) ?_
      rw [if_neg c]
      exact Ev.now _
theorem rencAll_f (l : List S37) (hl : l.length ≤ 1000) : Ev (fun k => corporaref40_EncodeAll.f k l) (encAll l ⟨#[]⟩) :=
  renc_l0 l hl l.length _ 0 (by omega) (by omega) (by simp [ByteArray.size])

theorem penc_l0 (l : List S37) (hl : l.length ≤ 1000) : ∀ (d : Nat) (b : List Int) (i : Nat), i ≤ l.length → l.length - i = d → b.length ≤ i * 1048585 →
    Ev (fun k => journal_EncodeAll.l0 k b l (l.length : Int) (i : Int)) (encAll (l.drop i) (strOfNums b))
  | 0, b, i, hi, hd, hb => by
    refine Ev.step (fun k => by simp only [journal_EncodeAll.l0]; exact rfl) ?_
    refine Ev.congr (fun k => if_neg (by omega)) ?_
    rw [List.drop_eq_nil_of_le (by omega)]
    exact Ev.now _
  | d + 1, b, i, hi, hd, hb => by
    have hlt : i < l.length := by omega
    have e : rd_T37 l i = l[i] := by simp [rd_T37, hlt]
    rw [List.drop_eq_getElem_cons hlt]
    refine Ev.step (fun k => by simp only [journal_EncodeAll.l0]; exact rfl) ?_
    refine Ev.congr (fun k => if_pos (by omega)) ?_
    refine Ev.congr (fun k => if_pos (by omega)) ?_
    refine Ev.congr (fun k => if_pos (by omega)) ?_
    rw [e]
    refine Ev.bind (penc_f _ _) ?_
    have hs := encE_size l[i].f0 l[i].f1
    simp only [encAll]
    by_cases c : (encE l[i].f0 l[i].f1).2 = 0
    · refine Ev.congr (fun k => if_pos c) ?_
      rw [if_pos c, show wrap64 ((i : Int) + 1) = ((i + 1 : Nat) : Int) by unfold wrap64; omega]
      refine Ev.congr (fun k => if_pos (by omega)) ?_
      have := penc_l0 l hl d (b ++ bytesOf (encE l[i].f0 l[i].f1).1) (i + 1) (by omega) (by omega) (by rw [List.length_append, bytesOf_length]; omega)
      rw [str_app, str_bytesOf] at this
      exact this
    · refine Ev.congr (fun k => if_neg c) ?_
      rw [if_neg c]
      exact Ev.now _
theorem pencAll_f (l : List S37) (hl : l.length ≤ 1000) : Ev (fun k => journal_EncodeAll.f k l) (encAll l ⟨#[]⟩) :=
  penc_l0 l hl l.length [] 0 (by omega) (by omega) (by simp)

theorem encAll_good : ∀ (l : List S37) (b : ByteArray), (∀ r ∈ l, Jl.Good (toR r)) → encAll l b = (b ++ strOfNums (encAllL (l.map toR)), 0)
  | [], b, _ => by
    simp only [encAll, List.map_nil, encAllL]
    rw [show strOfNums [] = ByteArray.empty from rfl, ByteArray.append_empty]
  | r :: l, b, h => by
    simp only [encAll]
    rw [encE_good (h r (by simp)), if_pos rfl, encAll_good l _ (fun x hx => h x (by simp [hx]))]
    simp only [List.map_cons, encAllL]
    rw [str_app, ByteArray.append_assoc]

/-- The text of good records. -/
def text (l : List S37) : ByteArray := strOfNums (encAllL (l.map toR))
theorem encAll_text (l : List S37) (h : ∀ r ∈ l, Jl.Good (toR r)) : encAll l ⟨#[]⟩ = (text l, 0) := by
  rw [encAll_good l _ h]
  unfold text
  rw [show (⟨#[]⟩ : ByteArray) = ByteArray.empty from rfl, ByteArray.empty_append]
theorem text_bytes (l : List S37) (h : ∀ r ∈ l, Jl.Good (toR r)) : bytesOf (text l) = encAllL (l.map toR) := by
  unfold text
  refine bytesOf_str (encAllL_bytes ?_)
  intro r hr
  obtain ⟨q, hq, rfl⟩ := List.mem_map.1 hr
  exact h q hq

end Go.Proofs.Ytnaddmkaakdhoaa.J
