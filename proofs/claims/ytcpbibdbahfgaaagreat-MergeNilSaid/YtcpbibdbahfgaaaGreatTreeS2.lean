/-
 A node that is split, in plain terms of lists.
-/
import Derived.Test.YtcpbibdbahfgaaaGreatTreeR
set_option linter.unusedVariables false
set_option autoImplicit false
namespace Go.Proofs.YtcpbibdbahfgaaaGreat
open Go.Eng
/-- What a split comes to. -/
structure SplitQ (h : Nat) (l : List Nd) (fr : List Nat) (c : Nat) (m : Con) (fp : List Nat) (k : Nat) (s : ByteArray) (l2 : List Nd) (fr2 : List Nat) (A B : Con) (fA fB : List Nat) (zA zB : Nat) : Prop where
 r : SplitR l fr c k s l2 fr2
 m : m = A ++ B
 a : Rep h l2 c A fA zA
 b : Rep h l2 k B fB zB
 za : 2 ≤ zA ∧ zA ≤ 4
 zb : 2 ≤ zB ∧ zB ≤ 4
 la : ∀ x ∈ ks A, sLt x s = true
 gb : ∀ x ∈ ks B, sLt x s = false
 perm : (fA ++ fB ++ fr2).Perm (fp ++ fr ++ List.range' l.length (l2.length - l.length))
 len : l.length ≤ l2.length ∧ l2.length ≤ l.length + 1
 out : ∀ j, j < l.length → j ∉ fp → j ∉ fr → l2[j]? = l[j]?
 fre : ∀ j ∈ fr2, j ∈ fr ∧ l2[j]? = l[j]?
 frl : fr2.length ≤ fr.length
 new : l.length < l2.length → fr2 = []
theorem split_leaf {l : List Nd} {fr : List Nat} {c : Nat} {m : Con} {fp : List Nat} {z : Nat} (r : Rep 0 l c m fp z) (hz : 4 < z) (hz2 : z ≤ 5) (hr : Rise (ks m)) (hnd : (fp ++ fr).Nodup) (hlt : ∀ j ∈ fp ++ fr, j < l.length) (hl : l.length ≤ 1000000) (hf : fr.length ≤ 1000000) :
  ∃ k s l2 fr2 A B fA fB zA zB, SplitQ 0 l fr c m fp k s l2 fr2 A B fA fB zA zB := by
 obtain ⟨d, g1, g2, g3⟩ := r.good hr (by omega)
 obtain ⟨d', h1, h2, h3, h4, h5, h6⟩ := r
 rw [g1] at h1; obtain rfl := Option.some.inj h1
 have hc : c < l.length := getLt g1
 have hck : cutK d = 2 := by simp [cutK, h2]; omega
 have hcR : cutR d = ⟨d.keys.drop 2, d.nums.drop 2, []⟩ := by simp [cutR, h2, show d.keys.length / 2 = 2 by omega]
 have hcL : cutL d = ⟨d.keys.take 2, d.nums.take 2, []⟩ := by simp [cutL, h2, show d.keys.length / 2 = 2 by omega]
 obtain ⟨k, l1, fr2, a1, a2, a3, a4, a5, a6, a7⟩ := add_ex l fr (cutR d) (fun j hj => hlt j (List.mem_append_right _ hj)) hl hf
 subst h5
 have hkc : k ≠ c := by
  rcases a7 with ⟨e, _⟩ | ⟨_, _, e, _⟩
  ·intro hq; subst hq; subst e; simp [List.nodup_append] at hnd
  ·omega
 have hs : d.keys[2]? = some d.keys[2] := List.getElem?_eq_getElem (by omega)
 have hrk : Rise d.keys := g3.rise
 have hm : m = (d.keys.take 2).zip (d.nums.take 2) ++ (d.keys.drop 2).zip (d.nums.drop 2) := by
  rw [← List.zip_append (by simp [h3]), List.take_append_drop, List.take_append_drop]; exact h4
 have hsp : d.keys.drop 2 = d.keys[2] :: d.keys.drop 3 := List.drop_eq_getElem_cons (by omega)
 have hap := hrk
 rw [← List.take_append_drop 2 d.keys] at hap
 obtain ⟨_, hp2, hp3⟩ := rise_append.1 hap
 refine ⟨k, d.keys[2], l1.set c (cutL d), fr2, _, _, [c], [k], 2, z - 2, ⟨⟨d, l1, g1, g3, by rw [hck]; exact hs, fun _ => h3, fun h0 => absurd h2 h0, a1, hkc, rfl⟩, hm, ?_, ?_, by omega, by omega, ?_, ?_, ?_, by simp; omega, ?_, ?_, ?_, ?_⟩⟩
 ·exact ⟨cutL d, List.getElem?_set_self (by omega), by rw [hcL], by rw [hcL]; simp [h3], by rw [hcL], rfl, by rw [hcL]; simp; omega⟩
 ·exact ⟨cutR d, by rw [List.getElem?_set_ne (Ne.symm hkc)]; exact a2, by rw [hcR], by rw [hcR]; simp [h3], by rw [hcR], rfl, by rw [hcR]; simp; omega⟩
 ·intro x hx
  rw [ks_zip (by simp [h3])] at hx
  exact hp3 x hx _ (by rw [hsp]; exact List.mem_cons_self)
 ·intro x hx
  rw [ks_zip (by simp [h3]), hsp] at hx
  rw [hsp] at hp2
  rcases List.mem_cons.1 hx with rfl | hx
  ·exact sLt_irrefl _
  ·exact sLt_asymm (hp2.1 x hx)
 ·rcases a7 with ⟨e, e2⟩ | ⟨e, e2, e3, e4⟩
  ·rw [e, List.length_set, e2, Nat.sub_self, List.range'_zero, List.append_nil]
   exact List.Perm.cons _ (List.perm_append_comm (l₁ := [k]))
  ·rw [e, e2, e3, List.length_set, e4, Nat.add_sub_cancel_left]
   exact List.Perm.refl _
 ·intro j hj h1 h2
  have hjc : j ≠ c := by simpa using h1
  rw [List.getElem?_set_ne (Ne.symm hjc)]
  refine a6 j ?_ hj
  rcases a7 with ⟨e, _⟩ | ⟨e, e2, e3, _⟩
  ·intro hq; subst hq; exact h2 (by rw [e]; simp)
  ·omega
 ·intro j hj
  rcases a7 with ⟨e, e2⟩ | ⟨e, e2, e3, e4⟩
  ·have hjf : j ∈ fr := by rw [e]; exact List.mem_append_left _ hj
   rw [List.nodup_append] at hnd
   have hjc : c ≠ j := hnd.2.2 c (by simp) j hjf
   have hjk : j ≠ k := by
    have h2 := hnd.2.1
    rw [e, List.nodup_append] at h2
    exact h2.2.2 j hj k (by simp)
   exact ⟨hjf, by rw [List.getElem?_set_ne hjc]; exact a6 j hjk (hlt j (List.mem_append_right _ hjf))⟩
  ·rw [e2] at hj; cases hj
 ·rcases a7 with ⟨e, e2⟩ | ⟨e, e2, e3, e4⟩
  ·rw [e]; simp
  ·rw [e2]; simp
 ·intro hq
  rw [List.length_set] at hq
  rcases a7 with ⟨e, e2⟩ | ⟨e, e2, e3, e4⟩
  ·omega
  ·exact e2
end Go.Proofs.YtcpbibdbahfgaaaGreat
