/-
 A node with kids that is split.
-/
import Derived.Test.YtcpbibdbahfgaaaGreatTreeS2
set_option linter.unusedVariables false
set_option autoImplicit false
namespace Go.Proofs.YtcpbibdbahfgaaaGreat
open Go.Eng
theorem split_node {h : Nat} {l : List Nd} {fr : List Nat} {c : Nat} {m : Con} {fp : List Nat} {z : Nat} (r : Rep (h + 1) l c m fp z) (hz : 4 < z) (hz2 : z ≤ 5) (hr : Rise (ks m)) (hnd : (fp ++ fr).Nodup) (hlt : ∀ j ∈ fp ++ fr, j < l.length) (hl : l.length ≤ 1000000) (hf : fr.length ≤ 1000000) :
  ∃ k s l2 fr2 A B fA fB zA zB, SplitQ (h + 1) l fr c m fp k s l2 fr2 A B fA fB zA zB := by
 obtain ⟨d, g1, g2, g3⟩ := r.good hr (by omega)
 obtain ⟨d', cs, h1, h2, h3, h4, h5, h6, h7, h8⟩ := r
 rw [g1] at h1; obtain rfl := Option.some.inj h1
 have hc : c < l.length := getLt g1
 have hsl := h7.len
 have hkl : d.kids.length = 5 := by rw [h2]; simp; omega
 have hne : d.kids ≠ [] := fun h0 => by rw [h0] at hkl; simp at hkl
 have hcs : cs = cs.take 2 ++ cs.drop 2 := (List.take_append_drop 2 cs).symm
 obtain ⟨A, eA⟩ : ∃ A, A = cs.take 2 := ⟨_, rfl⟩
 obtain ⟨B, eB⟩ : ∃ B, B = cs.drop 2 := ⟨_, rfl⟩
 have lA : A.length = 2 := by rw [eA]; simp; omega
 have lB : B.length = 3 := by rw [eB]; simp; omega
 rw [← eA, ← eB] at hcs
 obtain ⟨q1, s, q2, e1, e2, e3, e4, e5⟩ := Seps.parts (A := A) (B := B) (fun h0 => by rw [h0] at lA; simp at lA) (fun h0 => by rw [h0] at lB; simp at lB) (hcs ▸ h7) g3.rise
 have lq := e2.len
 have hq1 : q1.length = 1 := by omega
 have hck : cutK d = 1 := by simp [cutK, hne, hkl]
 have hcR : cutR d = ⟨q2, [], B.map Kid.i⟩ := by
  simp only [cutR, hne, if_false, hkl]
  rw [e1, h2, eB]
  simp
  rw [show q1 ++ s :: q2 = (q1 ++ [s]) ++ q2 by simp, List.drop_left' (by simp; omega)]
 have hcL : cutL d = ⟨q1, [], A.map Kid.i⟩ := by
  simp only [cutL, hne, if_false, hkl]
  rw [e1, h2, eA, h3]
  simp
  rw [List.take_left' (by omega)]
 obtain ⟨k, l1, fr2, a1, a2, a3, a4, a5, a6, a7⟩ := add_ex l fr (cutR d) (fun j hj => hlt j (List.mem_append_right _ hj)) hl hf
 subst h5
 have hkf : ∀ j ∈ c :: allF cs, k ≠ j := by
  intro j hj hq
  subst hq
  rcases a7 with ⟨e, _⟩ | ⟨_, _, e, _⟩
  ·rw [List.nodup_append] at hnd
   exact hnd.2.2 _ hj _ (by rw [e]; simp) rfl
  ·have := hlt _ (List.mem_append_left _ hj); omega
 have hkc : k ≠ c := hkf c (by simp)
 have hcf : c ∉ allF cs := by
  rw [List.nodup_append] at hnd
  exact (List.nodup_cons.1 hnd.1).1
 have hold : ∀ j ∈ allF cs, (l1.set c (cutL d))[j]? = l[j]? := fun j hj => by
  have hne2 : c ≠ j := fun e => hcf (by rw [e]; exact hj)
  rw [List.getElem?_set_ne hne2]
  exact a6 j (fun e => hkf j (List.mem_cons_of_mem _ hj) e.symm) (hlt j (List.mem_append_left _ (List.mem_cons_of_mem _ hj)))
 have hkid : ∀ x ∈ cs, ∃ y, 2 ≤ y ∧ y ≤ 4 ∧ Rep h (l1.set c (cutL d)) x.i x.m x.fp y := fun x hx => by
  obtain ⟨y, y1, y2, y3⟩ := h8 x hx
  exact ⟨y, y1, y2, y3.frame fun j hj => hold j (List.mem_flatMap.2 ⟨x, hx, hj⟩)⟩
 have hs : d.keys[1]? = some s := by rw [e1, List.getElem?_append_right (by omega)]; simp [hq1]
 have hF : allF cs = allF A ++ allF B := by rw [hcs, allF_append]
 refine ⟨k, s, l1.set c (cutL d), fr2, allM A, allM B, c :: allF A, k :: allF B, 2, 3, ⟨⟨d, l1, g1, g3, by rw [hck]; exact hs, fun h0 => absurd h0 hne, fun _ => ⟨by omega, by omega⟩, a1, hkc, rfl⟩, by rw [h4, hcs, allM_append], ?_, ?_, by omega, by omega, e4, e5, ?_, by simp; omega, ?_, ?_, ?_, ?_⟩⟩
 ·exact ⟨cutL d, A, List.getElem?_set_self (by omega), by rw [hcL], by rw [hcL], rfl, rfl, lA.symm, by rw [hcL]; exact e2, fun x hx => hkid x (by rw [hcs]; exact List.mem_append_left _ hx)⟩
 ·exact ⟨cutR d, B, by rw [List.getElem?_set_ne (Ne.symm hkc)]; exact a2, by rw [hcR], by rw [hcR], rfl, rfl, lB.symm, by rw [hcR]; exact e3, fun x hx => hkid x (by rw [hcs]; exact List.mem_append_right _ hx)⟩
 ·rcases a7 with ⟨e, e2'⟩ | ⟨e, e2, e3, e4⟩
  ·rw [e, hF, List.length_set, e2', Nat.sub_self, List.range'_zero, List.append_nil]
   simp only [List.cons_append, List.append_assoc]
   refine List.Perm.cons _ (List.Perm.append_left _ ?_)
   rw [← List.append_assoc]
   exact (List.perm_append_comm (l₁ := [k]) (l₂ := allF B ++ fr2)).trans (by simp)
  ·rw [e, e2, e3, List.length_set, e4, Nat.add_sub_cancel_left, hF, List.append_nil, List.append_nil]
   simp only [List.cons_append, List.append_assoc]
   refine List.Perm.cons _ (List.Perm.append_left _ ?_)
   exact List.perm_append_comm (l₁ := [l.length])
 ·intro j hj h1 h2
  have hjc : c ≠ j := fun e => h1 (by simp [e])
  rw [List.getElem?_set_ne hjc]
  refine a6 j ?_ hj
  rcases a7 with ⟨e, _⟩ | ⟨e, e2, e3, _⟩
  ·intro hq; subst hq; exact h2 (by rw [e]; simp)
  ·omega
 ·intro j hj
  rcases a7 with ⟨e, e2⟩ | ⟨e, e2, e3, e4⟩
  ·have hjf : j ∈ fr := by rw [e]; exact List.mem_append_left _ hj
   rw [List.nodup_append] at hnd
   have hjc : c ≠ j := hnd.2.2 c (by simp) j hjf
   have hjk : j ≠ k := by
    have h2 := hnd.2.1
    rw [e, List.nodup_append] at h2
    exact h2.2.2 j hj k (by simp)
   exact ⟨hjf, by rw [List.getElem?_set_ne hjc]; exact a6 j hjk (hlt j (List.mem_append_right _ hjf))⟩
  ·rw [e2] at hj; cases hj
 ·rcases a7 with ⟨e, e2⟩ | ⟨e, e2, e3, e4⟩
  ·rw [e]; simp
  ·rw [e2]; simp
 ·intro hq
  rw [List.length_set] at hq
  rcases a7 with ⟨e, e2⟩ | ⟨e, e2, e3, e4⟩
  ·omega
  ·exact e2
theorem split_rep {h : Nat} {l : List Nd} {fr : List Nat} {c : Nat} {m : Con} {fp : List Nat} {z : Nat} (r : Rep h l c m fp z) (hz : 4 < z) (hz2 : z ≤ 5) (hr : Rise (ks m)) (hnd : (fp ++ fr).Nodup) (hlt : ∀ j ∈ fp ++ fr, j < l.length) (hl : l.length ≤ 1000000) (hf : fr.length ≤ 1000000) :
  ∃ k s l2 fr2 A B fA fB zA zB, SplitQ h l fr c m fp k s l2 fr2 A B fA fB zA zB := by
 cases h with
 | zero => exact split_leaf r hz hz2 hr hnd hlt hl hf
 | succ h => exact split_node r hz hz2 hr hnd hlt hl hf
end Go.Proofs.YtcpbibdbahfgaaaGreat
