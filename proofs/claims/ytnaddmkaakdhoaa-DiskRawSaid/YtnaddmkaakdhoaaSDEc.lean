/-
  Texts of this claim, joined, without what the claim does not use: XPx
-/
import Derived.Test.YtnaddmkaakdhoaaSCAn
import Derived.Test.YtnaddmkaakdhoaaSDEa
section
namespace Go.Proofs.Ytnaddmkaakdhoaa.Dk
open J Go.Proofs.YtnaddmkaakdhoaaW.PrintWords
def e0 : ByteArray := ⟨#[]⟩
def exOps (s a b : ByteArray) : List S49 := [⟨1, s, e0, e0⟩, ⟨2, s, e0, a⟩, ⟨3, s, e0, e0⟩, ⟨6, e0, e0, e0⟩, ⟨2, s, e0, b⟩]
def exDsk (s : ByteArray) (x : S67) : Dsk := ⟨[x], [⟨s, 0⟩], [⟨s, 0⟩], []⟩
theorem em_e0 : em e0 = true := by unfold em; rw [Lib.toList_data]; rfl
theorem ex_settle (s : ByteArray) (x : S67) (u : List S69) (os : List S49) : settle ⟨[x], [⟨s, 0⟩], u, os⟩ = exDsk s x := by
  simp [settle, exDsk, keptTo, ren, num, marked]
theorem app_create (s : ByteArray) (hv : vname s = true) : app E0 ⟨1, s, e0, e0⟩ = (⟨[⟨e0, 0⟩], [⟨s, 0⟩], [], [⟨1, s, e0, e0⟩]⟩, 0) := by
  have : fieldsOK ⟨1, s, e0, e0⟩ = true := by simp [fieldsOK, em_e0]
  simp [app, this, chg, hv, has, put, pos, E0]
  rfl
theorem app_append (s a : ByteArray) (x : S67) (u : List S69) (os : List S49) (h : x.f0.size + a.size ≤ 1048576) : app ⟨[x], [⟨s, 0⟩], u, os⟩ ⟨2, s, e0, a⟩ = (⟨[⟨x.f0 ++ a, x.f1⟩], [⟨s, 0⟩], u, os⟩, 0) := by
  have h1 : fieldsOK ⟨2, s, e0, a⟩ = true := by simp [fieldsOK, em_e0]
  have h2 : has [⟨s, 0⟩] s = true := by simp [has]
  have h3 : ent ⟨[x], [⟨s, 0⟩], u, os⟩ s = 0 := by simp [ent, pos, lt_irrefl]
  simp only [app, h1, h2, h3, if_true]
  simp
  omega
theorem app_sync (s : ByteArray) (x : S67) (u : List S69) (os : List S49) : app ⟨[x], [⟨s, 0⟩], u, os⟩ ⟨3, s, e0, e0⟩ = (⟨[⟨x.f0, (x.f0.size : Nat)⟩], [⟨s, 0⟩], u, os⟩, 0) := by
  have h1 : fieldsOK ⟨3, s, e0, e0⟩ = true := by simp [fieldsOK, em_e0]
  have h2 : has [⟨s, 0⟩] s = true := by simp [has]
  have h3 : ent ⟨[x], [⟨s, 0⟩], u, os⟩ s = 0 := by simp [ent, pos, lt_irrefl]
  simp only [app, h1, h2, h3, if_true]
  simp
theorem app_dir (d : Dsk) : app d ⟨6, e0, e0, e0⟩ = (settle d, 0) := by
  have h1 : fieldsOK ⟨6, e0, e0, e0⟩ = true := by simp [fieldsOK, em_e0]
  simp [app, h1]
theorem e0_append (a : ByteArray) : e0 ++ a = a := by
  apply nk_inj
  simp [nk, e0]
theorem valid_E0 : valid E0 = true := by rw [valid_iff]; simp [E0, DirOK, Srt, crt, rep]
theorem ex_apply (s a b : ByteArray) (hv : vname s = true) (h : a.size + b.size ≤ 1048576) : applyAll E0 (exOps s a b) = (exDsk s ⟨a ++ b, (a.size : Nat)⟩, 0) := by
  unfold applyAll
  rw [if_pos valid_E0]
  simp only [exOps, appAll, app_create s hv, app_append s a ⟨e0, 0⟩ _ _ (show (e0.size + a.size ≤ 1048576) by show 0 + a.size ≤ _; omega), e0_append, app_sync, app_dir, ex_settle, if_true]
  rw [show exDsk s ⟨a, (a.size : Nat)⟩ = ⟨[⟨a, (a.size : Nat)⟩], [⟨s, 0⟩], [⟨s, 0⟩], []⟩ from rfl, app_append s b _ _ _ h]
  rfl
theorem ex_valid (s : ByteArray) (x : S67) (hv : vname s = true) (h : inoOK x) : valid (exDsk s x) = true := by
  rw [valid_of]
  have hd : DirOK [⟨s, 0⟩] 1 := ⟨fun y hy => by obtain rfl := List.mem_singleton.1 hy; exact ⟨hv, Int.le_refl _, Int.one_pos⟩, List.pairwise_singleton _ _, by simp⟩
  refine ⟨hd, Nat.zero_le _, hd, fun i hi => .inl ?_, fun y hy => by obtain rfl := List.mem_singleton.1 hy; exact h, rfl⟩
  have : i = 0 := by simp only [exDsk, List.length_singleton] at hi; omega
  subst this
  rfl
theorem ex_crash (s : ByteArray) (x : S67) (hv : vname s = true) (h : inoOK x) (cs : List Int) : crash (exDsk s x) cs = exDsk s (torn cs 0 x) := by
  unfold crash
  rw [if_pos (ex_valid s x hv h)]
  show settle ⟨[torn cs 0 x], (repd (rep [⟨s, 0⟩] _ (List.take _ []))).1, _, _⟩ = _
  rw [List.take_nil]
  exact ex_settle s _ _ _
theorem ex_read (s : ByteArray) (x : S67) (hv : vname s = true) (h : inoOK x) : read (exDsk s x) s = (x.f0, 0) := by
  have h2 : has (exDsk s x).dir s = true := by simp [has, exDsk]
  have h3 : ent (exDsk s x) s = 0 := by simp [ent, pos, lt_irrefl, exDsk]
  unfold read
  rw [if_pos (ex_valid s x hv h), if_pos h2, h3]
  rfl
end Go.Proofs.Ytnaddmkaakdhoaa.Dk

end
