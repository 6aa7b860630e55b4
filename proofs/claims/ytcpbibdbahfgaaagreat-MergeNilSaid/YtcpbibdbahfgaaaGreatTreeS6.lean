/-
 A key that is taken away below a node, in plain terms of lists.
-/
import Derived.Test.YtcpbibdbahfgaaaGreatTreeS5
set_option linter.unusedVariables false
set_option autoImplicit false
namespace Go.Proofs.YtcpbibdbahfgaaaGreat
open Go.Eng
theorem mend_at {h : Nat} {l : List Nd} {fr : List Nat} {i : Nat} {d : Nd} {A B : List Kid} {c : Kid} (hd : l[i]? = some d) (hg : Good d) (hn : d.nums = []) (hk : d.kids = (A ++ c :: B).map Kid.i) (hs : Seps d.keys (A ++ c :: B))
  (rc : Rep h l c.i c.m c.fp 1) (hrest : ∀ x, x ∈ A ∨ x ∈ B → ∃ y, 2 ≤ y ∧ y ≤ 4 ∧ Rep h l x.i x.m x.fp y) (h2 : 1 ≤ A.length + B.length)
  (hr : Rise (ks (allM (A ++ c :: B)))) (hnd : (i :: allF (A ++ c :: B)).Nodup) (hfr : fr.length ≤ 1000000) :
  ∃ l' fr' fp' z', MendQ h l fr i (max A.length 1) (allM (A ++ c :: B)) (i :: allF (A ++ c :: B)) (A.length + B.length + 1) l' fr' fp' z' := by
 rcases List.eq_nil_or_concat A with e | ⟨A', a, e⟩
 ·subst e
  cases B with
  | nil => simp at h2
  | cons b B =>
   obtain ⟨y, y1, y2, y3⟩ := hrest b (.inr (by simp))
   have := mend_rep (A := []) (a := c) (b := b) (B := B) hd hg hn hk hs rc y3 ⟨by omega, by omega⟩ ⟨by omega, by omega⟩ ⟨by omega, by omega⟩ (fun x hx => hrest x (by rcases hx with hx | hx <;> simp [hx])) hr hnd hfr
   simpa using this
 ·rw [List.concat_eq_append] at e
  subst e
  obtain ⟨y, y1, y2, y3⟩ := hrest a (.inl (by simp))
  rw [List.append_assoc, List.singleton_append] at hk hs hr hnd ⊢
  have := mend_rep (A := A') (a := a) (b := c) (B := B) hd hg hn hk hs y3 rc ⟨by omega, by omega⟩ ⟨by omega, by omega⟩ ⟨by omega, by omega⟩ (fun x hx => hrest x (by rcases hx with hx | hx <;> simp [hx])) hr hnd hfr
  have e1 : max (A' ++ [a]).length 1 = A'.length + 1 := by rw [List.length_append, List.length_singleton]; omega
  have e2 : (A' ++ [a]).length + B.length + 1 = A'.length + B.length + 2 := by rw [List.length_append, List.length_singleton]; omega
  rw [e1, e2]; exact this
/-- What a taking away below a node comes to. -/
structure DelQ (h : Nat) (l : List Nd) (fr : List Nat) (i : Nat) (m : Con) (fp : List Nat) (z : Nat) (key : ByteArray) (l' : List Nd) (fr' fp' : List Nat) (z' : Nat) : Prop where
 r : DelR key (h + 1) l fr i l' fr'
 rep : Rep h l' i (dlt m key) fp' z'
 zz : z' ≤ z ∧ z ≤ z' + 1
 perm : (fp' ++ fr').Perm (fp ++ fr)
 len : l'.length = l.length
 out : ∀ j, j ∉ fp → l'[j]? = l[j]?
 fre : ∀ j ∈ fr', j ∈ fr ∨ l'[j]? = some nd0
 frl : fr'.length ≤ fr.length + h
 sub : ∀ j ∈ fp', j ∈ fp
theorem del_leaf {key : ByteArray} {l : List Nd} {i : Nat} {m : Con} {fp fr : List Nat} {z : Nat} (r : Rep 0 l i m fp z) (hz : z ≤ 4) (hr : Rise (ks m)) (hk : key ∈ ks m) :
  ∃ l' fr' fp' z', DelQ 0 l fr i m fp z key l' fr' fp' z' := by
 obtain ⟨d, g1, g2, g3⟩ := r.good hr (by omega)
 obtain ⟨d', h1, h2, h3, h4, h5, h6⟩ := r
 rw [g1] at h1; obtain rfl := Option.some.inj h1
 have hi := getLt g1
 subst h5
 rw [h4, ks_zip h3] at hk
 have hlt := fnd_lt0 ((fnd_iff g3.rise).2 hk)
 refine ⟨_, fr, [i], z - 1, ⟨.leaf d g1 g3 h2 h3 hlt, ⟨delL d key, List.getElem?_set_self hi, h2, ?_, ?_, rfl, ?_⟩, by omega, List.Perm.refl _, by simp, ?_, fun j hj => .inl hj, by omega, fun j hj => hj⟩⟩
 ·simp [delL, h3]
 ·rw [h4, dlt_zip h3]; rfl
 ·simp [delL, h6]; omega
 ·intro j hj
  exact List.getElem?_set_ne (fun e => hj (by simp [e]))
theorem del_rep {key : ByteArray} : ∀ {h : Nat} {l : List Nd} {i : Nat} {m : Con} {fp fr : List Nat} {z : Nat}, Rep h l i m fp z → (1 ≤ z ∧ (h = 0 ∨ 2 ≤ z)) → z ≤ 4 → Rise (ks m) → key ∈ ks m → (fp ++ fr).Nodup → fr.length + h ≤ 1000000 →
  ∃ l' fr' fp' z', DelQ h l fr i m fp z key l' fr' fp' z'
 | 0, l, i, m, fp, fr, z, r, hz1, hz, hr, hk, hnd, hfr => del_leaf r hz hr hk
 | h + 1, l, i, m, fp, fr, z, r, hz1, hz, hr, hk, hnd, hfr => by
  obtain ⟨d, g1, g2, g3⟩ := r.good hr (by omega)
  obtain ⟨d', cs, h1, h2, h3, h4, h5, h6, h7, h8⟩ := r
  rw [g1] at h1; obtain rfl := Option.some.inj h1
  have hi := getLt g1
  have hsl := h7.len
  have hq := g3.rise
  obtain ⟨A, c, B, e1, e2, e3, e4⟩ := way_split (key := key) h7 hq
  obtain ⟨y, y1, y2, y3⟩ := h8 c (by rw [e1]; simp)
  have hm : m = allM A ++ (c.m ++ allM B) := by rw [h4, e1, allM_split]
  have hrc : Rise (ks c.m) := by rw [hm] at hr; exact rise_sub hr
  have hkc : key ∈ ks c.m := by
   rw [hm, ks_append, ks_append] at hk
   simp only [List.mem_append] at hk
   rcases hk with hx | hx | hx
   ·have := e3 key hx; rw [sLt_irrefl] at this; cases this
   ·exact hx
   ·have := e4 key hx; rw [sLt_irrefl] at this; cases this
  have hP := fp_perm i A B c fr
  rw [← e1, ← h5] at hP
  have hnd' := hP.nodup_iff.1 hnd
  rw [List.nodup_append] at hnd'
  obtain ⟨n1, n2, n3⟩ := hnd'
  obtain ⟨l1, fr1, fp1, y', Q⟩ := del_rep (key := key) y3 ⟨by omega, .inr y1⟩ y2 hrc hkc n2 (by omega)
  have old1 : ∀ j ∈ i :: (allF A ++ allF B), l1[j]? = l[j]? := fun j hj => Q.out j (fun hx => n3 j hj j (List.mem_append_left _ hx) rfl)
  have hi1 : l1[i]? = some d := by rw [old1 i (by simp)]; exact g1
  have hltc : lb (ks c.m) key < c.m.length := by
   have := fnd_lt0 ((fnd_iff hrc).2 hkc)
   rwa [ks_length] at this
  have hdl : dlt m key = allM A ++ (dlt c.m key ++ allM B) := by rw [hm]; exact dlt_mid e3 (fun x hx => sLt_asymm (e4 x hx)) hltc
  have hrd : Rise (ks (dlt m key)) := rise_dlt hr
  have hrcd : Rise (ks (dlt c.m key)) := rise_dlt hrc
  have hkw : d.kids[wayN d key]? = some c.i := by rw [h2, wayN_eq, ← e2, e1]; simp
  have hne : d.kids ≠ [] := fun h0 => by rw [h0] at hkw; simp at hkw
  have hzz := Q.zz
  have hfl := Q.frl
  obtain ⟨dc, hdc, hsz, hgc⟩ := Q.rep.good hrcd (by omega)
  have hseps := way_seps (key := key) (c := c) (c' := ⟨c.i, dlt c.m key, fp1⟩) (B := B) (fun x hx => .inr (mem_dlt hx)) (A := A) (e1 ▸ h7) hq e2
  have hkid : ∀ x, x ∈ A ∨ x ∈ B → ∃ y, 2 ≤ y ∧ y ≤ 4 ∧ Rep h l1 x.i x.m x.fp y := by
   intro x hx
   obtain ⟨y, w1, w2, w3⟩ := h8 x (by rw [e1]; rcases hx with hx | hx <;> simp [hx])
   refine ⟨y, w1, w2, w3.frame fun j hj => old1 j (List.mem_cons_of_mem _ ?_)⟩
   rcases hx with hx | hx
   ·exact List.mem_append_left _ (List.mem_flatMap.2 ⟨x, hx, hj⟩)
   ·exact List.mem_append_right _ (List.mem_flatMap.2 ⟨x, hx, hj⟩)
  have hP1 := fp_perm i A B ⟨c.i, dlt c.m key, fp1⟩ fr1
  have hPP : (i :: allF (A ++ ⟨c.i, dlt c.m key, fp1⟩ :: B) ++ fr1).Perm (fp ++ fr) := hP1.trans ((Q.perm.append_left _).trans hP.symm)
  have hfpc : ∀ j, j ∉ fp → j ∉ c.fp := fun j h1 hx => h1 (by rw [h5, e1, allF_append, allF_cons]; simp [hx])
  have hsub : ∀ j ∈ i :: allF (A ++ ⟨c.i, dlt c.m key, fp1⟩ :: B), j ∈ fp := fun j hj => by
   rw [allF_append, allF_cons] at hj
   rw [h5, e1, allF_append, allF_cons]
   simp only [List.mem_cons, List.mem_append] at hj ⊢
   rcases hj with hj | hj | hj | hj
   ·exact .inl hj
   ·exact .inr (.inl hj)
   ·exact .inr (.inr (.inl (Q.sub j hj)))
   ·exact .inr (.inr (.inr hj))
  by_cases hy : 2 ≤ y'
  ·refine ⟨l1, fr1, i :: allF (A ++ ⟨c.i, dlt c.m key, fp1⟩ :: B), z, ⟨.deep d dc c.i g1 g3 hne hkw Q.r hi1 hdc hgc (by omega) (by omega), ?_, by omega, hPP, Q.len, fun j hj => Q.out j (hfpc j hj), Q.fre, by omega, hsub⟩⟩
   refine ⟨d, A ++ ⟨c.i, dlt c.m key, fp1⟩ :: B, hi1, by rw [h2, e1]; simp, h3, by rw [hdl, allM_split], rfl, by rw [h6, e1]; simp, hseps, fun x hx => ?_⟩
   simp only [List.mem_append, List.mem_cons] at hx
   rcases hx with hx | rfl | hx
   ·exact hkid x (.inl hx)
   ·exact ⟨y', hy, by omega, Q.rep⟩
   ·exact hkid x (.inr hx)
  ·have hy1 : y' = 1 := by omega
   have hrep := Q.rep
   rw [hy1] at hrep
   have hnd1 := hPP.nodup_iff.2 hnd
   rw [List.nodup_append] at hnd1
   have hcs : cs.length = A.length + B.length + 1 := by rw [e1]; simp; omega
   have hz2 : 2 ≤ z := by rcases hz1.2 with h0 | h0 <;> omega
   obtain ⟨l2, fr2, fp2, z2, M⟩ := mend_at (A := A) (c := ⟨c.i, dlt c.m key, fp1⟩) (B := B) (fr := fr1) hi1 g3 h3 (by rw [h2, e1]; simp) hseps hrep hkid (by omega) (by rw [allM_split, ← hdl]; exact hrd) hnd1.1 (by omega)
   have hmz := M.zz
   have hmf := M.frl
   refine ⟨l2, fr2, fp2, z2, ⟨.mend d dc c.i g1 g3 hne hkw Q.r hi1 hdc hgc (by omega) (by omega) (by rw [wayN_eq, ← e2]; exact M.r), by rw [hdl, ← allM_split (c := ⟨c.i, dlt c.m key, fp1⟩)]; exact M.rep, by omega, M.perm.trans hPP, by rw [M.len, Q.len], fun j hj => ?_, fun j hj => ?_, by omega, fun j hj => hsub j (M.sub j hj)⟩⟩
   ·rw [M.out j (fun hx => hj (hsub j hx))]
    exact Q.out j (hfpc j hj)
   ·rcases M.fre j hj with hx | hx
    ·rcases Q.fre j hx with hx2 | hx2
     ·exact .inl hx2
     ·right
      rw [M.out j fun h0 => hnd1.2.2 j h0 j hx rfl]; exact hx2
    ·exact .inr hx
end Go.Proofs.YtcpbibdbahfgaaaGreat
