/-
 A key that is put below a node, in plain terms of lists.
-/
import Derived.Test.YtcpbibdbahfgaaaGreatSw5
set_option linter.unusedVariables false
set_option autoImplicit false
namespace Go.Proofs.YtcpbibdbahfgaaaGreat
open Go.Eng
theorem seps_cons {k : ByteArray} {q : List ByteArray} {c : Kid} {cs : List Kid} (h : cs ≠ []) : Seps (k :: q) (c :: cs) ↔ (∀ x ∈ ks c.m, sLt x k = true) ∧ (∀ x ∈ ks (allM cs), sLt x k = false) ∧ Seps q cs := by
 cases cs with
 | nil => exact absurd rfl h
 | cons c' cs => exact Iff.rfl
theorem seps_nil {c : Kid} {cs : List Kid} (h : cs ≠ []) : ¬ Seps [] (c :: cs) := by
 cases cs with
 | nil => exact absurd rfl h
 | cons c' cs => exact id
theorem seps_one {k : ByteArray} {q : List ByteArray} {c : Kid} : ¬ Seps (k :: q) [c] := id
theorem way_seps {key : ByteArray} {c c' : Kid} {B : List Kid} (hc : ∀ x ∈ ks c'.m, x = key ∨ x ∈ ks c.m) : ∀ {A : List Kid} {q : List ByteArray}, Seps q (A ++ c :: B) → Rise q → A.length = way q key → Seps q (A ++ c' :: B)
 | [], q, h, hr, hl => by
  rw [List.nil_append] at h ⊢
  cases B with
  | nil =>
   cases q with
   | nil => trivial
   | cons k q => exact absurd h seps_one
  | cons b B =>
   cases q with
   | nil => exact absurd h (seps_nil (by simp))
   | cons k q =>
    rw [seps_cons (by simp)] at h ⊢
    refine ⟨fun x hx => ?_, h.2⟩
    rcases hc x hx with rfl | hx
    ·cases hk : sLt x k with
     | true => rfl
     | false => rw [way_ge hr hk] at hl; simp at hl
    ·exact h.1 x hx
 | a :: A, q, h, hr, hl => by
  cases q with
  | nil => exact absurd h (seps_nil (by simp))
  | cons k q =>
   rw [List.cons_append, seps_cons (by simp)] at h ⊢
   have hk : sLt key k = false := by
    cases hk : sLt key k with
    | false => rfl
    | true => rw [way_lt hk] at hl; simp at hl
   rw [way_ge hr hk] at hl
   refine ⟨h.1, fun x hx => ?_, way_seps hc h.2.2 hr.2 (by simpa using hl)⟩
   have old := h.2.1
   rw [allM_append, allM_cons, ks_append, ks_append] at hx old
   simp only [List.mem_append] at hx old
   rcases hx with hx | hx | hx
   ·exact old x (.inl hx)
   ·rcases hc x hx with rfl | hx
    ·exact hk
    ·exact old x (.inr (.inl hx))
   ·exact old x (.inr (.inr hx))
theorem seps_part {c cA cB : Kid} {B : List Kid} {s : ByteArray} (hm : c.m = cA.m ++ cB.m) (hA : ∀ x ∈ ks cA.m, sLt x s = true) (hB : ∀ x ∈ ks cB.m, sLt x s = false) (hB2 : ∀ x ∈ ks (allM B), sLt x s = false) :
  ∀ {A : List Kid} {q : List ByteArray}, Seps q (A ++ c :: B) → Seps (q.take A.length ++ s :: q.drop A.length) (A ++ cA :: cB :: B)
 | [], q, h => by
  rw [List.nil_append] at h ⊢
  rw [List.length_nil, List.take_zero, List.drop_zero, List.nil_append, seps_cons (by simp)]
  refine ⟨hA, fun x hx => ?_, ?_⟩
  ·rw [allM_cons, ks_append, List.mem_append] at hx
   exact hx.elim (hB x) (hB2 x)
  ·cases B with
   | nil =>
    cases q with
    | nil => trivial
    | cons k q => exact absurd h seps_one
   | cons b B =>
    cases q with
    | nil => exact absurd h (seps_nil (by simp))
    | cons k q =>
     rw [seps_cons (by simp)] at h ⊢
     exact ⟨fun x hx => h.1 x (by rw [hm, ks_append]; exact List.mem_append_right _ hx), h.2⟩
 | a :: A, q, h => by
  cases q with
  | nil => exact absurd h (seps_nil (by simp))
  | cons k q =>
   rw [List.cons_append, seps_cons (by simp)] at h
   rw [List.length_cons, List.take_succ_cons, List.drop_succ_cons, List.cons_append, List.cons_append, seps_cons (by simp)]
   refine ⟨h.1, fun x hx => h.2.1 x ?_, seps_part hm hA hB hB2 h.2.2⟩
   rw [allM_append, allM_cons, allM_cons, ks_append, ks_append, ks_append] at hx
   rw [allM_append, allM_cons, hm, ks_append, ks_append, ks_append]
   simp only [List.mem_append] at hx ⊢
   rcases hx with hx | hx | hx | hx
   ·exact .inl hx
   ·exact .inr (.inl (.inl hx))
   ·exact .inr (.inl (.inr hx))
   ·exact .inr (.inr hx)
theorem perm_nodup {X X' : List Nat} {N N' : Nat} (h : X'.Perm (X ++ List.range' N (N' - N))) (hn : X.Nodup) (hl : ∀ j ∈ X, j < N) : X'.Nodup := by
 refine h.nodup_iff.2 (List.nodup_append.2 ⟨hn, List.nodup_range', fun a ha b hb => ?_⟩)
 have := hl a ha
 have := (List.mem_range'_1.1 hb).1
 omega
theorem perm_lt {X X' : List Nat} {N N' : Nat} (h : X'.Perm (X ++ List.range' N (N' - N))) (hN : N ≤ N') (hl : ∀ j ∈ X, j < N) : ∀ j ∈ X', j < N' := fun j hj => by
 rw [h.mem_iff, List.mem_append, List.mem_range'_1] at hj
 rcases hj with hj | hj
 ·have := hl j hj; omega
 ·omega
theorem perm_old {X X' : List Nat} {N N' : Nat} (h : X'.Perm (X ++ List.range' N (N' - N))) {j : Nat} (hj : j ∈ X') (hN : j < N) : j ∈ X := by
 rw [h.mem_iff, List.mem_append, List.mem_range'_1] at hj
 rcases hj with hj | hj
 ·exact hj
 ·omega
theorem range2 {a b c : Nat} (h : a ≤ b) (h' : b ≤ c) : List.range' a (b - a) ++ List.range' b (c - b) = List.range' a (c - a) := by
 have := List.range'_append_1 (s := a) (m := b - a) (n := c - b)
 rw [show a + (b - a) = b by omega, show b - a + (c - b) = c - a by omega] at this
 exact this
theorem perm_mid {P X Y X' Y' R : List Nat} (h : (X' ++ Y').Perm (X ++ Y ++ R)) : (P ++ (X' ++ Y')).Perm (P ++ (X ++ Y) ++ R) := by
 rw [List.append_assoc]; exact h.append_left P
theorem fp_perm (i : Nat) (A B : List Kid) (c : Kid) (fr : List Nat) : (i :: allF (A ++ c :: B) ++ fr).Perm ((i :: (allF A ++ allF B)) ++ (c.fp ++ fr)) := by
 rw [allF_append, allF_cons]
 simp only [List.cons_append, List.append_assoc]
 exact List.Perm.cons _ (List.Perm.append_left _ (List.perm_append_comm_assoc _ _ _))
theorem fp_perm2 (i : Nat) (A B : List Kid) (c c' : Kid) (fr : List Nat) : (i :: allF (A ++ c :: c' :: B) ++ fr).Perm ((i :: (allF A ++ allF B)) ++ (c.fp ++ c'.fp ++ fr)) := by
 rw [allF_append, allF_cons, allF_cons]
 simp only [List.cons_append, List.append_assoc]
 refine List.Perm.cons _ (List.Perm.append_left _ ?_)
 rw [← List.append_assoc, ← List.append_assoc c.fp]
 exact List.perm_append_comm_assoc _ _ _
structure PutQ (h : Nat) (l : List Nd) (fr : List Nat) (i : Nat) (m : Con) (fp : List Nat) (z : Nat) (key : ByteArray) (n : Int) (l' : List Nd) (fr' fp' : List Nat) (z' : Nat) : Prop where
 r : PutR key n (h + 1) l fr i l' fr'
 rep : Rep h l' i (ins m key n) fp' z'
 zz : z ≤ z' ∧ z' ≤ z + 1
 perm : (fp' ++ fr').Perm (fp ++ fr ++ List.range' l.length (l'.length - l.length))
 len : l.length ≤ l'.length ∧ l'.length ≤ l.length + h
 out : ∀ j, j < l.length → j ∉ fp → j ∉ fr → l'[j]? = l[j]?
 fre : ∀ j ∈ fr', j ∈ fr ∧ l'[j]? = l[j]?
 frl : fr'.length ≤ fr.length
 new : l.length < l'.length → fr' = []
theorem put_leaf {key : ByteArray} {n : Int} {l : List Nd} {i : Nat} {m : Con} {fp fr : List Nat} {z : Nat} (r : Rep 0 l i m fp z) (hz : z ≤ 4) (hr : Rise (ks m)) (hnd : (fp ++ fr).Nodup) :
  ∃ l' fr' fp' z', PutQ 0 l fr i m fp z key n l' fr' fp' z' := by
 obtain ⟨d, g1, g2, g3⟩ := r.good hr (by omega)
 obtain ⟨d', h1, h2, h3, h4, h5, h6⟩ := r
 rw [g1] at h1; obtain rfl := Option.some.inj h1
 have hi := getLt g1
 subst h5
 have hlb := lb_le d.keys key
 refine ⟨_, fr, [i], z + 1, ⟨.leaf d g1 g3 h2 h3, ⟨insL d key n, List.getElem?_set_self hi, h2, ?_, ?_, rfl, ?_⟩, by omega, ?_, by simp, ?_, ?_, Nat.le_refl _, by simp⟩⟩
 ·simp [insL, h3]
 ·rw [h4, ins_zip h3]; rfl
 ·simp [insL, h6]; omega
 ·simp
 ·intro j hj h1 h2
  exact List.getElem?_set_ne (fun e => h1 (by simp [e]))
 ·intro j hj
  rw [List.nodup_append] at hnd
  exact ⟨hj, List.getElem?_set_ne (hnd.2.2 i (by simp) j hj)⟩
theorem put_rep {key : ByteArray} {n : Int} : ∀ {h : Nat} {l : List Nd} {i : Nat} {m : Con} {fp fr : List Nat} {z : Nat}, Rep h l i m fp z → z ≤ 4 → Rise (ks m) → key ∉ ks m → (fp ++ fr).Nodup → (∀ j ∈ fp ++ fr, j < l.length) → l.length + h ≤ 1000000 → fr.length ≤ 1000000 →
  ∃ l' fr' fp' z', PutQ h l fr i m fp z key n l' fr' fp' z'
 | 0, l, i, m, fp, fr, z, r, hz, hr, hk, hnd, hlt, hl, hfr => put_leaf r hz hr hnd
 | h + 1, l, i, m, fp, fr, z, r, hz, hr, hk, hnd, hlt, hl, hfr => by
  obtain ⟨d, g1, g2, g3⟩ := r.good hr (by omega)
  obtain ⟨d', cs, h1, h2, h3, h4, h5, h6, h7, h8⟩ := r
  rw [g1] at h1; obtain rfl := Option.some.inj h1
  have hi := getLt g1
  have hsl := h7.len
  have hq := g3.rise
  obtain ⟨A, c, B, e1, e2, e3, e4⟩ := way_split (key := key) h7 hq
  obtain ⟨y, y1, y2, y3⟩ := h8 c (by rw [e1]; simp)
  have hm : m = allM A ++ (c.m ++ allM B) := by rw [h4, e1, allM_split]
  have hrc : Rise (ks c.m) := by rw [hm] at hr; exact rise_sub hr
  have hkc : key ∉ ks c.m := fun hx => hk (by rw [hm, ks_append, ks_append]; simp [hx])
  have hP := fp_perm i A B c fr
  rw [← e1, ← h5] at hP
  have hnd' := hP.nodup_iff.1 hnd
  have hlt' : ∀ j ∈ (i :: (allF A ++ allF B)) ++ (c.fp ++ fr), j < l.length := fun j hj => hlt j (hP.mem_iff.2 hj)
  rw [List.nodup_append] at hnd'
  obtain ⟨n1, n2, n3⟩ := hnd'
  have hX : ∀ j ∈ c.fp ++ fr, j < l.length := fun j hj => hlt' j (List.mem_append_right _ hj)
  have hPl : ∀ j ∈ i :: (allF A ++ allF B), j < l.length := fun j hj => hlt' j (List.mem_append_left _ hj)
  obtain ⟨l1, fr1, fp1, y', Q⟩ := put_rep (key := key) (n := n) y3 y2 hrc hkc n2 hX (by omega) hfr
  have old1 : ∀ j ∈ i :: (allF A ++ allF B), l1[j]? = l[j]? := fun j hj => Q.out j (hPl j hj) (fun hx => n3 j hj j (List.mem_append_left _ hx) rfl) (fun hx => n3 j hj j (List.mem_append_right _ hx) rfl)
  have hi1 : l1[i]? = some d := by rw [old1 i (by simp)]; exact g1
  have hins : ins m key n = allM A ++ (ins c.m key n ++ allM B) := by rw [hm]; exact ins_mid e3 (fun x hx => sLt_asymm (e4 x hx))
  have hri : Rise (ks (ins m key n)) := rise_ins hr hk
  have hrci : Rise (ks (ins c.m key n)) := rise_ins hrc hkc
  have hkw : d.kids[wayN d key]? = some c.i := by rw [h2, wayN_eq, ← e2, e1]; simp
  have hne : d.kids ≠ [] := fun h0 => by rw [h0] at hkw; simp at hkw
  obtain ⟨dc, hdc, hsz, hgc⟩ := Q.rep.good hrci (by have := Q.zz; omega)
  have hseps := way_seps (key := key) (c := c) (c' := ⟨c.i, ins c.m key n, fp1⟩) (B := B) (fun x hx => mem_ins.1 hx) (A := A) (e1 ▸ h7) hq e2
  have hlenA : A.length ≤ d.keys.length := by rw [e1, List.length_append, List.length_cons] at hsl; omega
  have hkid : ∀ l2 : List Nd, (∀ j ∈ allF A ++ allF B, l2[j]? = l[j]?) → ∀ x, x ∈ A ∨ x ∈ B → ∃ y, 2 ≤ y ∧ y ≤ 4 ∧ Rep h l2 x.i x.m x.fp y := by
   intro l2 hl2 x hx
   obtain ⟨y, w1, w2, w3⟩ := h8 x (by rw [e1]; rcases hx with hx | hx <;> simp [hx])
   refine ⟨y, w1, w2, w3.frame fun j hj => hl2 j ?_⟩
   rcases hx with hx | hx
   ·exact List.mem_append_left _ (List.mem_flatMap.2 ⟨x, hx, hj⟩)
   ·exact List.mem_append_right _ (List.mem_flatMap.2 ⟨x, hx, hj⟩)
  by_cases hy : y' ≤ 4
  ·have hP1 := fp_perm i A B ⟨c.i, ins c.m key n, fp1⟩ fr1
   refine ⟨l1, fr1, i :: allF (A ++ ⟨c.i, ins c.m key n, fp1⟩ :: B), z, ⟨.deep d dc c.i g1 g3 hne hkw Q.r hdc hgc (by omega), ?_, by omega, ?_, by have := Q.len; omega, ?_, Q.fre, Q.frl, Q.new⟩⟩
   ·refine ⟨d, A ++ ⟨c.i, ins c.m key n, fp1⟩ :: B, hi1, by rw [h2, e1]; simp, h3, by rw [hins, allM_split], rfl, by rw [h6, e1]; simp, hseps, fun x hx => ?_⟩
    simp only [List.mem_append, List.mem_cons] at hx
    rcases hx with hx | rfl | hx
    ·exact hkid l1 (fun j hj => old1 j (List.mem_cons_of_mem _ hj)) x (.inl hx)
    ·exact ⟨y', by have := Q.zz; omega, hy, Q.rep⟩
    ·exact hkid l1 (fun j hj => old1 j (List.mem_cons_of_mem _ hj)) x (.inr hx)
   ·exact hP1.trans ((perm_mid Q.perm).trans (hP.symm.append_right _))
   ·intro j hj h1 h2
    rw [h5] at h1
    refine Q.out j hj (fun hx => h1 ?_) h2
    rw [e1, allF_append, allF_cons]; simp [hx]
  ·have hnd1 := perm_nodup Q.perm n2 hX
   have hlt1 := perm_lt Q.perm Q.len.1 hX
   obtain ⟨k, s, l2, fr2, A2, B2, fA, fB, zA, zB, S⟩ := split_rep Q.rep (by omega) (by have := Q.zz; omega) hrci hnd1 hlt1 (by have := Q.len; omega) (by have := Q.frl; omega)
   have hql := Q.len
   have hsl2 := S.len
   have notin : ∀ j ∈ i :: (allF A ++ allF B), j ∉ fp1 ∧ j ∉ fr1 := fun j hj => by
    have hj0 := hPl j hj
    exact ⟨fun hx => n3 j hj j (perm_old Q.perm (List.mem_append_left _ hx) hj0) rfl, fun hx => n3 j hj j (perm_old Q.perm (List.mem_append_right _ hx) hj0) rfl⟩
   have old2 : ∀ j ∈ i :: (allF A ++ allF B), l2[j]? = l[j]? := fun j hj => by
    have hj0 := hPl j hj
    rw [S.out j (by omega) (notin j hj).1 (notin j hj).2]; exact old1 j hj
   have hi2 : l2[i]? = some d := by rw [old2 i (by simp)]; exact g1
   have hil2 := getLt hi2
   have hP2 : ((fA ++ fB) ++ fr2).Perm (c.fp ++ fr ++ List.range' l.length (l2.length - l.length)) := by
    refine S.perm.trans ((Q.perm.append_right _).trans ?_)
    rw [List.append_assoc, range2 hql.1 hsl2.1]
   have hin : ∀ j ∈ fA ++ fB ++ fr2, i ≠ j := fun j hj e => by
    have := perm_old hP2 hj (by rw [← e]; exact hi)
    exact n3 i (by simp) j this e
   have hset : ∀ (x : Nd) (j : Nat), i ≠ j → (l2.set i x)[j]? = l2[j]? := fun x j hj => List.getElem?_set_ne hj
   have hxs : (∀ x ∈ ks (allM B), sLt x s = false) := fun x hx => by
    obtain ⟨w, hw⟩ := List.exists_mem_of_ne_nil _ (S.b.ne (by have := S.zb; omega))
    have hw' : w.1 ∈ ks B2 := List.mem_map.2 ⟨w, hw, rfl⟩
    have h1 := S.gb _ hw'
    have h2 : sLt w.1 x = true := by
     rw [hins, ks_append, ks_append] at hri
     exact (rise_append.1 (rise_append.1 hri).2.1).2.2 w.1 (by rw [S.m, ks_append]; exact List.mem_append_right _ hw') x hx
    cases hq : sLt x s with
    | false => rfl
    | true => rw [sLt_trans h2 hq] at h1; cases h1
   have hsp := seps_part (cA := ⟨c.i, A2, fA⟩) (cB := ⟨k, B2, fB⟩) S.m S.la S.gb hxs hseps
   have hww : wayN d key = A.length := by rw [wayN_eq, e2]
   have hkl : d.kids.length = A.length + 1 + B.length := by rw [h2, e1]; simp; omega
   refine ⟨_, fr2, i :: allF (A ++ ⟨c.i, A2, fA⟩ :: ⟨k, B2, fB⟩ :: B), z + 1, ⟨.split d dc d c.i k s g1 g3 hne hkw Q.r hdc hgc (by omega) S.r hi2 g3 (by omega) (by omega), ?_, by omega, ?_, by simp; omega, ?_, ?_, by have := S.frl; have := Q.frl; omega, ?_⟩⟩
   ·refine ⟨insK d (wayN d key) s k, A ++ ⟨c.i, A2, fA⟩ :: ⟨k, B2, fB⟩ :: B, List.getElem?_set_self hil2, ?_, h3, ?_, rfl, ?_, ?_, fun x hx => ?_⟩
    ·simp only [insK]
     rw [hww, h2, e1, List.map_append, List.map_cons]
     simp [List.take_append, List.drop_append]
     rw [List.take_of_length_le (by simp), List.drop_eq_nil_of_le (by simp)]
     rfl
    ·rw [hins, S.m, allM_append, allM_cons, allM_cons]; simp
    ·rw [h6, e1]; simp; omega
    ·simp only [insK]; rw [hww]; exact hsp
    ·have hk2 := hkid (l2.set i (insK d (wayN d key) s k)) (fun j hj => by
      rw [hset _ j (fun e => by rw [List.nodup_cons] at n1; exact n1.1 (e ▸ hj))]
      exact old2 j (List.mem_cons_of_mem _ hj)) x
     simp only [List.mem_append, List.mem_cons] at hx
     rcases hx with hx | rfl | rfl | hx
     ·exact hk2 (.inl hx)
     ·exact ⟨zA, S.za.1, S.za.2, S.a.frame fun j hj => hset _ j (hin j (by simp [hj]))⟩
     ·exact ⟨zB, S.zb.1, S.zb.2, S.b.frame fun j hj => hset _ j (hin j (by simp [hj]))⟩
     ·exact hk2 (.inr hx)
   ·rw [List.length_set]
    exact (fp_perm2 i A B _ _ fr2).trans ((perm_mid hP2).trans (hP.symm.append_right _))
   ·intro j hj h1 h2
    rw [h5] at h1
    have hji : i ≠ j := fun e => h1 (by simp [e])
    have hjc : j ∉ c.fp := fun hx => h1 (by rw [e1, allF_append, allF_cons]; simp [hx])
    rw [hset _ j hji, S.out j (by omega) (fun hx => ?_) (fun hx => ?_)]
    ·exact Q.out j hj hjc h2
    ·exact (List.mem_append.1 (perm_old Q.perm (List.mem_append_left _ hx) hj)).elim hjc h2
    ·exact (List.mem_append.1 (perm_old Q.perm (List.mem_append_right _ hx) hj)).elim hjc h2
   ·intro j hj
    have hs := S.fre j hj
    have hq := Q.fre j hs.1
    exact ⟨hq.1, by rw [hset _ j (hin j (by simp [hj])), hs.2, hq.2]⟩
   ·intro hx
    rw [List.length_set] at hx
    by_cases h0 : l1.length < l2.length
    ·exact S.new h0
    ·have := Q.new (by omega)
     have h1 := S.frl
     rw [this] at h1
     exact List.length_eq_zero_iff.1 (by simpa using h1)
theorem Rep.all {l : List Nd} : ∀ {h i : Nat} {m : Con} {fp : List Nat} {z : Nat}, Rep h l i m fp z → Rise (ks m) → z ≤ 900 → ∀ j ∈ fp, ∃ d, l[j]? = some d ∧ Good d
 | 0, i, m, fp, z, r, hr, hz, j, hj => by
  obtain ⟨d, g1, g2, g3⟩ := r.good hr hz
  obtain ⟨d', h1, h2, h3, h4, h5, h6⟩ := r
  rw [h5, List.mem_singleton] at hj
  rw [hj]; exact ⟨d, g1, g3⟩
 | h + 1, i, m, fp, z, r, hr, hz, j, hj => by
  obtain ⟨d, g1, g2, g3⟩ := r.good hr hz
  obtain ⟨d', cs, h1, h2, h3, h4, h5, h6, h7, h8⟩ := r
  rw [h5, List.mem_cons] at hj
  rcases hj with hj | hj
  ·rw [hj]; exact ⟨d, g1, g3⟩
  ·obtain ⟨c, hc, hj⟩ := List.mem_flatMap.1 hj
   obtain ⟨y, y1, y2, y3⟩ := h8 c hc
   obtain ⟨A, B, e⟩ := List.append_of_mem hc
   rw [h4, e, allM_split] at hr
   exact y3.all (rise_sub hr) (by omega) j hj
end Go.Proofs.YtcpbibdbahfgaaaGreat
namespace Go.Proofs.YtcpbibdbahfgaaaGreat
open Go.Eng
theorem seps_join {a b c : Kid} {B : List Kid} (hm : c.m = a.m ++ b.m) (hb : b.m ≠ []) : ∀ {A : List Kid} {q : List ByteArray}, Seps q (A ++ a :: b :: B) →
    ∃ s, q[A.length]? = some s ∧ (∀ x ∈ ks a.m, sLt x s = true) ∧ (∀ x ∈ ks b.m, sLt x s = false) ∧ Seps (q.take A.length ++ q.drop (A.length + 1)) (A ++ c :: B)
  | [], q, h => by
    cases q with
    | nil => exact absurd h (seps_nil (by simp))
    | cons s q =>
      rw [List.nil_append, seps_cons (by simp)] at h
      refine ⟨s, rfl, h.1, fun x hx => h.2.1 x (by rw [allM_cons, ks_append]; exact List.mem_append_left _ hx), ?_⟩
      rw [List.length_nil, List.take_zero, Nat.zero_add, List.drop_succ_cons, List.drop_zero, List.nil_append, List.nil_append]
      cases B with
      | nil =>
        cases q with
        | nil => trivial
        | cons k q => exact absurd h.2.2 seps_one
      | cons b2 B =>
        cases q with
        | nil => exact absurd h.2.2 (seps_nil (by simp))
        | cons k q =>
          have h2 := (seps_cons (by simp)).1 h.2.2
          rw [seps_cons (by simp)]
          refine ⟨fun x hx => ?_, h2.2⟩
          rw [hm, ks_append, List.mem_append] at hx
          rcases hx with hx | hx
          · obtain ⟨y, hy⟩ := List.exists_mem_of_ne_nil _ hb
            have hy' : y.1 ∈ ks b.m := List.mem_map.2 ⟨y, hy, rfl⟩
            have h3 := h.2.1 y.1 (by rw [allM_cons, ks_append]; exact List.mem_append_left _ hy')
            exact sLt_trans (lt_le (h.1 x hx) h3) (h2.1 _ hy')
          · exact h2.1 x hx
  | a0 :: A, q, h => by
    cases q with
    | nil => exact absurd h (seps_nil (by simp))
    | cons k q =>
      rw [List.cons_append, seps_cons (by simp)] at h
      obtain ⟨s, e1, e2, e3, e4⟩ := seps_join (c := c) hm hb h.2.2
      refine ⟨s, by simpa using e1, e2, e3, ?_⟩
      rw [List.length_cons, List.take_succ_cons, List.drop_succ_cons, List.cons_append, List.cons_append, seps_cons (by simp)]
      refine ⟨h.1, fun x hx => h.2.1 x ?_, e4⟩
      rw [allM_append, allM_cons, hm, ks_append, ks_append, ks_append] at hx
      rw [allM_append, allM_cons, allM_cons, ks_append, ks_append, ks_append]
      simp only [List.mem_append] at hx ⊢
      rcases hx with hx | (hx | hx) | hx
      · exact .inl hx
      · exact .inr (.inl hx)
      · exact .inr (.inr (.inl hx))
      · exact .inr (.inr (.inr hx))
theorem Rep.shape {l : List Nd} {h i : Nat} {m : Con} {fp : List Nat} {z : Nat} (r : Rep h l i m fp z) (hz : 1 ≤ z) {d : Nd} (hd : l[i]? = some d) :
    (h = 0 → d.kids = [] ∧ d.nums.length = d.keys.length) ∧ (h ≠ 0 → d.kids ≠ [] ∧ d.kids.length = d.keys.length + 1) := by
  cases h with
  | zero =>
    obtain ⟨d', h1, h2, h3, h4, h5, h6⟩ := r
    rw [hd] at h1; obtain rfl := Option.some.inj h1
    exact ⟨fun _ => ⟨h2, h3⟩, fun h => absurd rfl h⟩
  | succ h =>
    obtain ⟨d', cs, h1, h2, h3, h4, h5, h6, h7, h8⟩ := r
    rw [hd] at h1; obtain rfl := Option.some.inj h1
    refine ⟨fun h => by omega, fun _ => ⟨fun h0 => ?_, by rw [h2]; simp [h7.len]⟩⟩
    rw [h2] at h0
    have : cs.length = 0 := by simpa using congrArg List.length h0
    omega
theorem Rep.fpHead {l : List Nd} {h i : Nat} {m : Con} {fp : List Nat} {z : Nat} (r : Rep h l i m fp z) : fp = i :: fp.tail := by
  cases h with
  | zero => obtain ⟨d, h1, h2, h3, h4, h5, h6⟩ := r; rw [h5]; rfl
  | succ h => obtain ⟨d, cs, h1, h2, h3, h4, h5, h6⟩ := r; rw [h5]; rfl
theorem join_pair {h : Nat} {l l' : List Nd} {ai bi : Nat} {am bm : Con} {fa fb : List Nat} {ya yb : Nat} {s : ByteArray} {da db : Nd} (ra : Rep h l ai am fa ya) (rb : Rep h l bi bm fb yb) (ha : 1 ≤ ya) (hb : 1 ≤ yb) (hda : l[ai]? = some da) (hdb : l[bi]? = some db)
    (la : ∀ x ∈ ks am, sLt x s = true) (gb : ∀ x ∈ ks bm, sLt x s = false) (hl : l'[ai]? = some (joinA da db s)) (ho : ∀ j ∈ fa ++ fb, j ≠ ai → j ≠ bi → l'[j]? = l[j]?) (hnd : (fa ++ fb).Nodup) :
    Rep h l' ai (am ++ bm) (fa ++ fb.tail) (ya + yb) := by
  cases h with
  | zero =>
    obtain ⟨d1, h1, h2, h3, h4, h5, h6⟩ := ra
    obtain ⟨d2, k1, k2, k3, k4, k5, k6⟩ := rb
    rw [hda] at h1; obtain rfl := Option.some.inj h1
    rw [hdb] at k1; obtain rfl := Option.some.inj k1
    refine ⟨_, hl, by simp [joinA, h2, k2], by simp [joinA, h2, h3, k3], ?_, by rw [h5, k5]; rfl, by simp [joinA, h2, h6, k6]⟩
    simp only [joinA, h2, if_true]
    rw [List.zip_append h3.symm, h4, k4]
  | succ h =>
    obtain ⟨d1, c1, h1, h2, h3, h4, h5, h6, h7, h8⟩ := ra
    obtain ⟨d2, c2, k1, k2, k3, k4, k5, k6, k7, k8⟩ := rb
    rw [hda] at h1; obtain rfl := Option.some.inj h1
    rw [hdb] at k1; obtain rfl := Option.some.inj k1
    have hne : da.kids ≠ [] := fun h0 => by rw [h2] at h0; have : c1.length = 0 := by simpa using congrArg List.length h0
                                            omega
    have hc2 : c2 ≠ [] := fun h0 => by rw [h0] at k6; simp at k6; omega
    subst h5 k5
    have hdis : ∀ j ∈ allF c1 ++ allF c2, j ≠ ai ∧ j ≠ bi := by
      intro j hj
      rw [List.nodup_append] at hnd
      obtain ⟨n1, n2, n3⟩ := hnd
      rw [List.nodup_cons] at n1 n2
      rcases List.mem_append.1 hj with hj | hj
      · exact ⟨fun e => n1.1 (e ▸ hj), n3 j (List.mem_cons_of_mem _ hj) bi (by simp)⟩
      · exact ⟨fun e => n3 ai (by simp) j (List.mem_cons_of_mem _ hj) e.symm, fun e => n2.1 (e ▸ hj)⟩
    refine ⟨_, c1 ++ c2, hl, by simp [joinA, h2, k2], by simp [joinA, h3, k3], by rw [h4, k4, allM_append], by rw [allF_append]; rfl, by rw [h6, k6]; simp, ?_, fun c hc => ?_⟩
    · simp only [joinA, hne, if_false, List.append_assoc]
      rw [h4] at la; rw [k4] at gb
      exact Seps.join h7 k7 hc2 (fun c hc => by obtain ⟨y, y1, y2, y3⟩ := h8 c hc; exact y3.ne (by omega)) la gb
    · have key : ∃ y, 2 ≤ y ∧ y ≤ 4 ∧ Rep h l c.i c.m c.fp y := by
        rcases List.mem_append.1 hc with hc | hc
        · exact h8 c hc
        · exact k8 c hc
      obtain ⟨y, y1, y2, y3⟩ := key
      refine ⟨y, y1, y2, y3.frame fun j hj => ?_⟩
      have hj' : j ∈ allF c1 ++ allF c2 := by rw [← allF_append]; exact List.mem_flatMap.2 ⟨c, hc, hj⟩
      refine ho j ?_ (hdis j hj').1 (hdis j hj').2
      rcases List.mem_append.1 hj' with h | h <;> simp [h]
theorem part_pair {h : Nat} {l l' : List Nd} {ai bi : Nat} {am bm : Con} {fa fb : List Nat} {ya yb : Nat} {s : ByteArray} {da db : Nd} (ra : Rep h l ai am fa ya) (rb : Rep h l bi bm fb yb) (ha : 1 ≤ ya) (hb : 1 ≤ yb) (hab : ya + yb = 5) (hda : l[ai]? = some da) (hdb : l[bi]? = some db)
    (la : ∀ x ∈ ks am, sLt x s = true) (gb : ∀ x ∈ ks bm, sLt x s = false) (hr : Rise (ks (am ++ bm))) (hl : l'[ai]? = some (partA da db s)) (hl2 : l'[bi]? = some (partB da db s)) (ho : ∀ j ∈ fa ++ fb, j ≠ ai → j ≠ bi → l'[j]? = l[j]?) (hnd : (fa ++ fb).Nodup) :
    ∃ A B fA fB t, (allK da db s)[partK da db]? = some t ∧ am ++ bm = A ++ B ∧ Rep h l' ai A fA 2 ∧ Rep h l' bi B fB 3 ∧ (fA ++ fB).Perm (fa ++ fb) ∧ (∀ x ∈ ks A, sLt x t = true) ∧ ∀ x ∈ ks B, sLt x t = false := by
  cases h with
  | zero =>
    obtain ⟨d1, h1, h2, h3, h4, h5, h6⟩ := ra
    obtain ⟨d2, k1, k2, k3, k4, k5, k6⟩ := rb
    rw [hda] at h1; obtain rfl := Option.some.inj h1
    rw [hdb] at k1; obtain rfl := Option.some.inj k1
    have hH : partH da db = 2 := by simp [partH, sizeN, leafN, h2, k2]; omega
    have hK : allK da db s = da.keys ++ db.keys := by simp [allK, h2]
    have hA : partA da db s = ⟨(da.keys ++ db.keys).take 2, (da.nums ++ db.nums).take 2, []⟩ := by simp only [partA, h2, if_true, hH, hK]
    have hB : partB da db s = ⟨(da.keys ++ db.keys).drop 2, (da.nums ++ db.nums).drop 2, []⟩ := by simp only [partB, h2, if_true, hH, hK]
    have hk : partK da db = 2 := by simp [partK, h2, hH]
    obtain ⟨K, eK⟩ : ∃ K, K = da.keys ++ db.keys := ⟨_, rfl⟩
    obtain ⟨V, eV⟩ : ∃ V, V = da.nums ++ db.nums := ⟨_, rfl⟩
    have lK : K.length = 5 := by rw [eK]; simp; omega
    have lV : V.length = 5 := by rw [eV]; simp; omega
    have hm : am ++ bm = K.zip V := by rw [eK, eV, List.zip_append h3.symm, h4, k4]
    rw [← eK, ← eV] at hA hB
    rw [← eK] at hK
    rw [hA] at hl; rw [hB] at hl2
    have hrk : Rise K := by rw [hm, ks_zip (by omega)] at hr; exact hr
    have hsp : K.drop 2 = K[2] :: K.drop 3 := List.drop_eq_getElem_cons (by omega)
    have hap := hrk
    rw [← List.take_append_drop 2 K] at hap
    obtain ⟨_, hp2, hp3⟩ := rise_append.1 hap
    subst h5 k5
    refine ⟨(K.take 2).zip (V.take 2), (K.drop 2).zip (V.drop 2), [ai], [bi], K[2], by rw [hK, hk]; exact List.getElem?_eq_getElem (by omega), ?_, ⟨_, hl, rfl, by simp; omega, rfl, rfl, by simp; omega⟩, ⟨_, hl2, rfl, by simp; omega, rfl, rfl, by simp; omega⟩, List.Perm.refl _, ?_, ?_⟩
    · rw [hm, ← List.zip_append (by simp; omega), List.take_append_drop, List.take_append_drop]
    · intro x hx
      rw [ks_zip (by simp; omega)] at hx
      exact hp3 x hx _ (by rw [hsp]; exact List.mem_cons_self)
    · intro x hx
      rw [ks_zip (by simp; omega), hsp] at hx
      rw [hsp] at hp2
      rcases List.mem_cons.1 hx with rfl | hx
      · exact sLt_irrefl _
      · exact sLt_asymm (hp2.1 x hx)
  | succ h =>
    obtain ⟨d1, c1, h1, h2, h3, h4, h5, h6, h7, h8⟩ := ra
    obtain ⟨d2, c2, k1, k2, k3, k4, k5, k6, k7, k8⟩ := rb
    rw [hda] at h1; obtain rfl := Option.some.inj h1
    rw [hdb] at k1; obtain rfl := Option.some.inj k1
    have hne : da.kids ≠ [] := fun h0 => by rw [h2] at h0; have : c1.length = 0 := by simpa using congrArg List.length h0
                                            omega
    have hne2 : db.kids ≠ [] := fun h0 => by rw [k2] at h0; have : c2.length = 0 := by simpa using congrArg List.length h0
                                             omega
    have hc2 : c2 ≠ [] := fun h0 => by rw [h0] at k6; simp at k6; omega
    have hK : allK da db s = da.keys ++ s :: db.keys := by simp [allK, hne]
    rw [h4] at la; rw [k4] at gb
    have hnem : ∀ c ∈ c1 ++ c2, c.m ≠ [] := fun c hc => by
      rcases List.mem_append.1 hc with hc | hc
      · obtain ⟨y, y1, y2, y3⟩ := h8 c hc; exact y3.ne (by omega)
      · obtain ⟨y, y1, y2, y3⟩ := k8 c hc; exact y3.ne (by omega)
    have hsj := Seps.join h7 k7 hc2 (fun c hc => hnem c (List.mem_append_left _ hc)) la gb
    obtain ⟨cs, ecs⟩ : ∃ cs, cs = c1 ++ c2 := ⟨_, rfl⟩
    rw [← ecs] at hsj hnem
    have hcs : cs = cs.take 2 ++ cs.drop 2 := (List.take_append_drop 2 cs).symm
    obtain ⟨A, eA⟩ : ∃ A, A = cs.take 2 := ⟨_, rfl⟩
    obtain ⟨B, eB⟩ : ∃ B, B = cs.drop 2 := ⟨_, rfl⟩
    have lcs : cs.length = 5 := by rw [ecs]; simp; omega
    have lA : A.length = 2 := by rw [eA]; simp; omega
    have lB : B.length = 3 := by rw [eB]; simp; omega
    rw [← eA, ← eB] at hcs
    obtain ⟨q1, t, q2, e1, e2, e3, e4, e5⟩ := Seps.parts (A := A) (B := B) (fun h0 => by rw [h0] at lA; simp at lA) (fun h0 => by rw [h0] at lB; simp at lB) (hcs ▸ hsj) (hsj.rise hnem)
    have lq := e2.len
    have hq1 : q1.length = 1 := by omega
    have hdk : (da.kids ++ db.kids) = cs.map Kid.i := by rw [h2, k2, ecs]; simp
    have hH : partH da db = 2 := by
      have z1 : sizeN da = ya := by unfold sizeN leafN; rw [h2]; cases c1 with
        | nil => simp at h6; omega
        | cons a q => simp [h6]
      have z2 : sizeN db = yb := by unfold sizeN leafN; rw [k2]; cases c2 with
        | nil => simp at k6; omega
        | cons a q => simp [k6]
      simp only [partH, z1, z2]; omega
    have hA : partA da db s = ⟨q1, [], A.map Kid.i⟩ := by
      simp only [partA, hne, if_false, hH, hK]
      rw [e1, hdk, eA, List.take_left' (by omega), List.map_take]
    have hB : partB da db s = ⟨q2, [], B.map Kid.i⟩ := by
      simp only [partB, hne, if_false, hH, hK]
      rw [e1, hdk, eB, show q1 ++ t :: q2 = (q1 ++ [t]) ++ q2 by simp, List.drop_left' (by simp; omega), List.map_drop]
    have hk : partK da db = 1 := by simp [partK, hne, hH]
    rw [hA] at hl; rw [hB] at hl2
    subst h5 k5
    have hdis : ∀ j ∈ allF cs, j ≠ ai ∧ j ≠ bi := by
      intro j hj
      rw [ecs, allF_append] at hj
      rw [List.nodup_append] at hnd
      obtain ⟨n1, n2, n3⟩ := hnd
      rw [List.nodup_cons] at n1 n2
      rcases List.mem_append.1 hj with hj | hj
      · exact ⟨fun e => n1.1 (e ▸ hj), n3 j (List.mem_cons_of_mem _ hj) bi (by simp)⟩
      · exact ⟨fun e => n3 ai (by simp) j (List.mem_cons_of_mem _ hj) e.symm, fun e => n2.1 (e ▸ hj)⟩
    have hkid : ∀ c ∈ cs, ∃ y, 2 ≤ y ∧ y ≤ 4 ∧ Rep h l' c.i c.m c.fp y := fun c hc => by
      have key : ∃ y, 2 ≤ y ∧ y ≤ 4 ∧ Rep h l c.i c.m c.fp y := by
        rw [ecs] at hc
        rcases List.mem_append.1 hc with hc | hc
        · exact h8 c hc
        · exact k8 c hc
      obtain ⟨y, y1, y2, y3⟩ := key
      refine ⟨y, y1, y2, y3.frame fun j hj => ?_⟩
      have hj' : j ∈ allF cs := List.mem_flatMap.2 ⟨c, hc, hj⟩
      refine ho j ?_ (hdis j hj').1 (hdis j hj').2
      rw [ecs, allF_append] at hj'
      rcases List.mem_append.1 hj' with h | h <;> simp [h]
    have hF : allF A ++ allF B = allF c1 ++ allF c2 := by rw [← allF_append, ← allF_append, ← hcs, ecs]
    refine ⟨allM A, allM B, ai :: allF A, bi :: allF B, t, by rw [hK, hk, e1, List.getElem?_append_right (by omega)]; simp [hq1], by rw [← allM_append, ← hcs, ecs, allM_append, h4, k4], ?_, ?_, ?_, e4, e5⟩
    · exact ⟨_, A, hl, rfl, rfl, rfl, rfl, lA.symm, e2, fun c hc => hkid c (by rw [hcs]; exact List.mem_append_left _ hc)⟩
    · exact ⟨_, B, hl2, rfl, rfl, rfl, rfl, lB.symm, e3, fun c hc => hkid c (by rw [hcs]; exact List.mem_append_right _ hc)⟩
    · have p1 : (ai :: allF A ++ bi :: allF B).Perm (ai :: bi :: (allF A ++ allF B)) := List.Perm.cons _ List.perm_middle
      have p2 : (ai :: allF c1 ++ bi :: allF c2).Perm (ai :: bi :: (allF c1 ++ allF c2)) := List.Perm.cons _ List.perm_middle
      rw [hF] at p1
      exact p1.trans p2.symm
structure MendQ (h : Nat) (l : List Nd) (fr : List Nat) (i w : Nat) (m : Con) (fp : List Nat) (z : Nat) (l' : List Nd) (fr' fp' : List Nat) (z' : Nat) : Prop where
  r : MendR l fr i w l' fr'
  rep : Rep (h + 1) l' i m fp' z'
  zz : z' ≤ z ∧ z ≤ z' + 1
  perm : (fp' ++ fr').Perm (fp ++ fr)
  len : l'.length = l.length
  out : ∀ j, j ∉ fp → l'[j]? = l[j]?
  fre : ∀ j ∈ fr', j ∈ fr ∨ l'[j]? = some nd0
  frl : fr'.length ≤ fr.length + 1
  sub : ∀ j ∈ fp', j ∈ fp
theorem mend_rep {h : Nat} {l : List Nd} {fr : List Nat} {i : Nat} {d : Nd} {A B : List Kid} {a b : Kid} {ya yb : Nat} (hd : l[i]? = some d) (hg : Good d) (hn : d.nums = []) (hk : d.kids = (A ++ a :: b :: B).map Kid.i) (hs : Seps d.keys (A ++ a :: b :: B))
    (ra : Rep h l a.i a.m a.fp ya) (rb : Rep h l b.i b.m b.fp yb) (ha : 1 ≤ ya ∧ ya ≤ 4) (hb : 1 ≤ yb ∧ yb ≤ 4) (hab : 3 ≤ ya + yb ∧ ya + yb ≤ 5) (hrest : ∀ x, x ∈ A ∨ x ∈ B → ∃ y, 2 ≤ y ∧ y ≤ 4 ∧ Rep h l x.i x.m x.fp y)
    (hr : Rise (ks (allM (A ++ a :: b :: B)))) (hnd : (i :: allF (A ++ a :: b :: B)).Nodup) (hfr : fr.length ≤ 1000000) :
    ∃ l' fr' fp' z', MendQ h l fr i (A.length + 1) (allM (A ++ a :: b :: B)) (i :: allF (A ++ a :: b :: B)) (A.length + B.length + 2) l' fr' fp' z' := by
  have hrab : Rise (ks (a.m ++ b.m)) := by
    have : allM (A ++ a :: b :: B) = allM A ++ ((a.m ++ b.m) ++ allM B) := by simp [allM_append, allM_cons]
    rw [this] at hr; exact rise_sub hr
  have hra : Rise (ks a.m) := by rw [ks_append] at hrab; exact (rise_append.1 hrab).1
  have hrb : Rise (ks b.m) := by rw [ks_append] at hrab; exact (rise_append.1 hrab).2.1
  obtain ⟨da, hda, hza, hga⟩ := ra.good hra (by omega)
  obtain ⟨db, hdb, hzb, hgb⟩ := rb.good hrb (by omega)
  obtain ⟨s, e1, e2, e3, e4⟩ := seps_join (c := ⟨a.i, a.m ++ b.m, a.fp ++ b.fp.tail⟩) rfl (rb.ne hb.1) hs
  have hta := ra.top
  have htb := rb.top
  have hfa := ra.fpHead
  have hfb := rb.fpHead
  have hp := fp_perm2 i A B a b []
  rw [List.append_nil, List.append_nil] at hp
  have hnd2 := hp.nodup_iff.1 hnd
  rw [List.nodup_append] at hnd2
  obtain ⟨n1, n2, n3⟩ := hnd2
  have hii : i ∉ allF A ++ allF B := (List.nodup_cons.1 n1).1
  have hia : i ∉ a.fp ++ b.fp := fun hx => n3 i (by simp) i hx rfl
  have hxa : i ≠ a.i := fun e => hia (by rw [e]; simp [hta])
  have hxb : i ≠ b.i := fun e => hia (by rw [e]; simp [htb])
  have hne : a.i ≠ b.i := by rw [List.nodup_append] at n2; exact n2.2.2 _ hta _ htb
  have hM : MendC l i (A.length + 1) d da db a.i b.i s := ⟨hd, hg, by rw [hk]; simp, by rw [hk]; simp, hda, hdb, hga, hgb, by omega, e1, hxa, hxb, hne⟩
  have hil := getLt hd
  have hal := getLt hda
  have hbl := getLt hdb
  have hsl := hs.len
  have hoth : ∀ (l' : List Nd), (∀ j, j ≠ i → j ≠ a.i → j ≠ b.i → l'[j]? = l[j]?) → ∀ x, x ∈ A ∨ x ∈ B → ∃ y, 2 ≤ y ∧ y ≤ 4 ∧ Rep h l' x.i x.m x.fp y := by
    intro l' hl' x hx
    obtain ⟨y, y1, y2, y3⟩ := hrest x hx
    refine ⟨y, y1, y2, y3.frame fun j hj => ?_⟩
    have hj' : j ∈ allF A ++ allF B := by
      rcases hx with hx | hx
      · exact List.mem_append_left _ (List.mem_flatMap.2 ⟨x, hx, hj⟩)
      · exact List.mem_append_right _ (List.mem_flatMap.2 ⟨x, hx, hj⟩)
    exact hl' j (fun e => hii (e ▸ hj')) (n3 j (List.mem_cons_of_mem _ hj') _ (by simp [hta])) (n3 j (List.mem_cons_of_mem _ hj') _ (by simp [htb]))
  have houtm : ∀ j, j ∉ i :: allF (A ++ a :: b :: B) → j ≠ i ∧ j ≠ a.i ∧ j ≠ b.i := by
    intro j hj
    have hj2 : j ∉ (i :: (allF A ++ allF B)) ++ (a.fp ++ b.fp) := fun hx => hj (hp.mem_iff.2 hx)
    refine ⟨fun e => hj2 (by simp [e]), fun e => hj2 (by simp [e, hta]), fun e => hj2 (by simp [e, htb])⟩
  by_cases h4 : ya + yb ≤ 4
  · obtain ⟨l', el⟩ : ∃ l', l' = ((l.set a.i (joinA da db s)).set i (joinX d (A.length + 1))).set b.i nd0 := ⟨_, rfl⟩
    have ho : ∀ j, j ≠ i → j ≠ a.i → j ≠ b.i → l'[j]? = l[j]? := fun j j1 j2 j3 => by
      rw [el, List.getElem?_set_ne (Ne.symm j3), List.getElem?_set_ne (Ne.symm j1), List.getElem?_set_ne (Ne.symm j2)]
    have hla : l'[a.i]? = some (joinA da db s) := by
      rw [el, List.getElem?_set_ne (Ne.symm hne), List.getElem?_set_ne hxa, List.getElem?_set_self hal]
    have hli : l'[i]? = some (joinX d (A.length + 1)) := by
      rw [el, List.getElem?_set_ne (Ne.symm hxb), List.getElem?_set_self (by simpa using hil)]
    have hlb : l'[b.i]? = some nd0 := by rw [el, List.getElem?_set_self (by simpa using hbl)]
    have J := join_pair ra rb ha.1 hb.1 hda hdb e2 e3 hla (fun j hj j1 j2 => ho j (fun e => hia (e ▸ hj)) j1 j2) n2
    refine ⟨l', fr ++ [b.i], i :: allF (A ++ ⟨a.i, a.m ++ b.m, a.fp ++ b.fp.tail⟩ :: B), A.length + B.length + 1, ⟨by rw [el]; exact .join d da db a.i b.i s hM (by omega) hfr, ?_, by omega, ?_, by rw [el]; simp, fun j hj => ?_, fun j hj => ?_, by simp, fun j hj => ?_⟩⟩
    · refine ⟨_, A ++ ⟨a.i, a.m ++ b.m, a.fp ++ b.fp.tail⟩ :: B, hli, ?_, hn, ?_, rfl, by simp; omega, ?_, fun x hx => ?_⟩
      · simp only [joinX]
        rw [hk]
        simp [List.take_append, List.drop_append]
        rw [List.take_of_length_le (by simp), List.drop_eq_nil_of_le (by simp; omega), show A.length + 1 + 1 - A.length = 2 by omega]
        rfl
      · simp [allM_append, allM_cons]
      · simp only [joinX]; rw [Nat.add_sub_cancel]; exact e4
      · simp only [List.mem_append, List.mem_cons] at hx
        rcases hx with hx | rfl | hx
        · exact hoth l' ho x (.inl hx)
        · exact ⟨ya + yb, by omega, h4, J⟩
        · exact hoth l' ho x (.inr hx)
    · have p1 := fp_perm i A B ⟨a.i, a.m ++ b.m, a.fp ++ b.fp.tail⟩ (fr ++ [b.i])
      have p2 := fp_perm2 i A B a b fr
      refine p1.trans (List.Perm.trans (List.Perm.append_left _ ?_) p2.symm)
      have p3 : (b.fp.tail ++ (fr ++ [b.i])).Perm (b.fp ++ fr) := by
        conv => rhs; rw [hfb]
        rw [← List.append_assoc]
        exact List.perm_append_comm (l₂ := [b.i])
      simp only [List.append_assoc]
      exact p3.append_left _
    · obtain ⟨j1, j2, j3⟩ := houtm j hj
      exact ho j j1 j2 j3
    · rcases List.mem_append.1 hj with hj | hj
      · exact .inl hj
      · rw [List.mem_singleton] at hj; rw [hj]; exact .inr hlb
    · rw [allF_append, allF_cons] at hj ⊢
      rw [allF_cons]
      simp only [List.mem_cons, List.mem_append] at hj ⊢
      rcases hj with hj | hj | (hj | hj) | hj
      · exact .inl hj
      · exact .inr (.inl hj)
      · exact .inr (.inr (.inl hj))
      · exact .inr (.inr (.inr (.inl (List.mem_of_mem_tail hj))))
      · exact .inr (.inr (.inr (.inr hj)))
  · obtain ⟨l0, el0⟩ : ∃ l0, l0 = (l.set a.i (partA da db s)).set b.i (partB da db s) := ⟨_, rfl⟩
    have ho0 : ∀ j, j ≠ a.i → j ≠ b.i → l0[j]? = l[j]? := fun j j2 j3 => by
      rw [el0, List.getElem?_set_ne (Ne.symm j3), List.getElem?_set_ne (Ne.symm j2)]
    have hla0 : l0[a.i]? = some (partA da db s) := by rw [el0, List.getElem?_set_ne (Ne.symm hne), List.getElem?_set_self hal]
    have hlb0 : l0[b.i]? = some (partB da db s) := by rw [el0, List.getElem?_set_self (by simpa using hbl)]
    obtain ⟨A2, B2, fA, fB, t, f1, f2, f3, f4, f5, f6, f7⟩ := part_pair ra rb ha.1 hb.1 (by omega) hda hdb e2 e3 hrab hla0 hlb0 (fun j hj j1 j2 => ho0 j j1 j2) n2
    obtain ⟨l', el⟩ : ∃ l', l' = l0.set i ⟨d.keys.set A.length t, d.nums, d.kids⟩ := ⟨_, rfl⟩
    have hi0 : ∀ j, j ≠ i → l'[j]? = l0[j]? := fun j hj => by rw [el, List.getElem?_set_ne (Ne.symm hj)]
    have ho : ∀ j, j ≠ i → j ≠ a.i → j ≠ b.i → l'[j]? = l[j]? := fun j j1 j2 j3 => by rw [hi0 j j1, ho0 j j2 j3]
    have hli : l'[i]? = some ⟨d.keys.set A.length t, d.nums, d.kids⟩ := by rw [el, List.getElem?_set_self (by rw [el0]; simpa using hil)]
    have sa := ra.shape ha.1 hda
    have sb := rb.shape hb.1 hdb
    have hiA : ∀ j ∈ fA ++ fB, j ≠ i := fun j hj e => hia (f5.mem_iff.1 (e ▸ hj))
    have hsB : ∀ x ∈ ks (allM B), sLt x t = false := fun x hx => by
      obtain ⟨w, hw⟩ := List.exists_mem_of_ne_nil _ (f4.ne (by omega))
      have hw' : w.1 ∈ ks B2 := List.mem_map.2 ⟨w, hw, rfl⟩
      have h1 := f7 _ hw'
      have h2 : sLt w.1 x = true := by
        have : allM (A ++ a :: b :: B) = allM A ++ ((a.m ++ b.m) ++ allM B) := by simp [allM_append, allM_cons]
        rw [this, f2, ks_append, ks_append] at hr
        exact (rise_append.1 (rise_append.1 hr).2.1).2.2 w.1 (by rw [ks_append]; exact List.mem_append_right _ hw') x hx
      cases hq : sLt x t with
      | false => rfl
      | true => rw [sLt_trans h2 hq] at h1; cases h1
    have hsp := seps_part (c := ⟨a.i, a.m ++ b.m, a.fp ++ b.fp.tail⟩) (cA := ⟨a.i, A2, fA⟩) (cB := ⟨b.i, B2, fB⟩) f2 f6 f7 hsB e4
    have hAl := getLt e1
    refine ⟨l', fr, i :: allF (A ++ ⟨a.i, A2, fA⟩ :: ⟨b.i, B2, fB⟩ :: B), A.length + B.length + 2, ⟨?_, ?_, by omega, ?_, by rw [el, el0]; simp, fun j hj => ?_, fun j hj => .inl hj, by omega, fun j hj => ?_⟩⟩
    · rw [el, el0]
      exact .part d da db a.i b.i s t hM (by omega) f1 (fun h0 => by
        by_cases hh : h = 0
        · exact ⟨(sb.1 hh).1, (sa.1 hh).2, (sb.1 hh).2⟩
        · exact absurd h0 (sa.2 hh).1) (fun h0 => by
        by_cases hh : h = 0
        · exact absurd (sa.1 hh).1 h0
        · exact ⟨(sb.2 hh).1, (sa.2 hh).2, (sb.2 hh).2⟩)
    · refine ⟨_, A ++ ⟨a.i, A2, fA⟩ :: ⟨b.i, B2, fB⟩ :: B, hli, by rw [hk]; simp, hn, ?_, rfl, by simp; omega, ?_, fun x hx => ?_⟩
      · have : a.m ++ (b.m ++ allM B) = A2 ++ (B2 ++ allM B) := by rw [← List.append_assoc, f2, List.append_assoc]
        rw [allM_append, allM_cons, allM_cons, allM_append, allM_cons, allM_cons, this]
      · have : d.keys.set A.length t = (d.keys.take A.length ++ d.keys.drop (A.length + 1)).take A.length ++ t :: (d.keys.take A.length ++ d.keys.drop (A.length + 1)).drop A.length := by
          rw [List.take_left' (by simp; omega), List.drop_left' (by simp; omega), List.set_eq_take_append_cons_drop, if_pos hAl]
        show Seps (d.keys.set A.length t) _
        rw [this]; exact hsp
      · simp only [List.mem_append, List.mem_cons] at hx
        rcases hx with hx | rfl | rfl | hx
        · exact hoth l' ho x (.inl hx)
        · exact ⟨2, by omega, by omega, f3.frame fun j hj => hi0 j (hiA j (by simp [hj]))⟩
        · exact ⟨3, by omega, by omega, f4.frame fun j hj => hi0 j (hiA j (by simp [hj]))⟩
        · exact hoth l' ho x (.inr hx)
    · have p1 := fp_perm2 i A B ⟨a.i, A2, fA⟩ ⟨b.i, B2, fB⟩ fr
      have p2 := fp_perm2 i A B a b fr
      exact p1.trans (((f5.append_right fr).append_left _).trans p2.symm)
    · obtain ⟨j1, j2, j3⟩ := houtm j hj
      exact ho j j1 j2 j3
    · have p1 := fp_perm2 i A B ⟨a.i, A2, fA⟩ ⟨b.i, B2, fB⟩ []
      have p2 := fp_perm2 i A B a b []
      simp only [List.append_nil] at p1 p2
      exact (p1.trans ((f5.append_left _).trans p2.symm)).mem_iff.1 hj
end Go.Proofs.YtcpbibdbahfgaaaGreat
namespace Go.Proofs.YtcpbibdbahfgaaaGreat
open Go.Eng
theorem mend_at {h : Nat} {l : List Nd} {fr : List Nat} {i : Nat} {d : Nd} {A B : List Kid} {c : Kid} (hd : l[i]? = some d) (hg : Good d) (hn : d.nums = []) (hk : d.kids = (A ++ c :: B).map Kid.i) (hs : Seps d.keys (A ++ c :: B))
  (rc : Rep h l c.i c.m c.fp 1) (hrest : ∀ x, x ∈ A ∨ x ∈ B → ∃ y, 2 ≤ y ∧ y ≤ 4 ∧ Rep h l x.i x.m x.fp y) (h2 : 1 ≤ A.length + B.length)
  (hr : Rise (ks (allM (A ++ c :: B)))) (hnd : (i :: allF (A ++ c :: B)).Nodup) (hfr : fr.length ≤ 1000000) :
  ∃ l' fr' fp' z', MendQ h l fr i (max A.length 1) (allM (A ++ c :: B)) (i :: allF (A ++ c :: B)) (A.length + B.length + 1) l' fr' fp' z' := by
 rcases List.eq_nil_or_concat A with e | ⟨A', a, e⟩
 ·subst e
  cases B with
  | nil => simp at h2
  | cons b B =>
   obtain ⟨y, y1, y2, y3⟩ := hrest b (.inr (by simp))
   have := mend_rep (A := []) (a := c) (b := b) (B := B) hd hg hn hk hs rc y3 ⟨by omega, by omega⟩ ⟨by omega, by omega⟩ ⟨by omega, by omega⟩ (fun x hx => hrest x (by rcases hx with hx | hx <;> simp [hx])) hr hnd hfr
   simpa using this
 ·rw [List.concat_eq_append] at e
  subst e
  obtain ⟨y, y1, y2, y3⟩ := hrest a (.inl (by simp))
  rw [List.append_assoc, List.singleton_append] at hk hs hr hnd ⊢
  have := mend_rep (A := A') (a := a) (b := c) (B := B) hd hg hn hk hs y3 rc ⟨by omega, by omega⟩ ⟨by omega, by omega⟩ ⟨by omega, by omega⟩ (fun x hx => hrest x (by rcases hx with hx | hx <;> simp [hx])) hr hnd hfr
  have e1 : max (A' ++ [a]).length 1 = A'.length + 1 := by rw [List.length_append, List.length_singleton]; omega
  have e2 : (A' ++ [a]).length + B.length + 1 = A'.length + B.length + 2 := by rw [List.length_append, List.length_singleton]; omega
  rw [e1, e2]; exact this
structure DelQ (h : Nat) (l : List Nd) (fr : List Nat) (i : Nat) (m : Con) (fp : List Nat) (z : Nat) (key : ByteArray) (l' : List Nd) (fr' fp' : List Nat) (z' : Nat) : Prop where
 r : DelR key (h + 1) l fr i l' fr'
 rep : Rep h l' i (dlt m key) fp' z'
 zz : z' ≤ z ∧ z ≤ z' + 1
 perm : (fp' ++ fr').Perm (fp ++ fr)
 len : l'.length = l.length
 out : ∀ j, j ∉ fp → l'[j]? = l[j]?
 fre : ∀ j ∈ fr', j ∈ fr ∨ l'[j]? = some nd0
 frl : fr'.length ≤ fr.length + h
 sub : ∀ j ∈ fp', j ∈ fp
theorem del_leaf {key : ByteArray} {l : List Nd} {i : Nat} {m : Con} {fp fr : List Nat} {z : Nat} (r : Rep 0 l i m fp z) (hz : z ≤ 4) (hr : Rise (ks m)) (hk : key ∈ ks m) :
  ∃ l' fr' fp' z', DelQ 0 l fr i m fp z key l' fr' fp' z' := by
 obtain ⟨d, g1, g2, g3⟩ := r.good hr (by omega)
 obtain ⟨d', h1, h2, h3, h4, h5, h6⟩ := r
 rw [g1] at h1; obtain rfl := Option.some.inj h1
 have hi := getLt g1
 subst h5
 rw [h4, ks_zip h3] at hk
 have hlt := fnd_lt0 ((fnd_iff g3.rise).2 hk)
 refine ⟨_, fr, [i], z - 1, ⟨.leaf d g1 g3 h2 h3 hlt, ⟨delL d key, List.getElem?_set_self hi, h2, ?_, ?_, rfl, ?_⟩, by omega, List.Perm.refl _, by simp, ?_, fun j hj => .inl hj, by omega, fun j hj => hj⟩⟩
 ·simp [delL, h3]
 ·rw [h4, dlt_zip h3]; rfl
 ·simp [delL, h6]; omega
 ·intro j hj
  exact List.getElem?_set_ne (fun e => hj (by simp [e]))
theorem del_rep {key : ByteArray} : ∀ {h : Nat} {l : List Nd} {i : Nat} {m : Con} {fp fr : List Nat} {z : Nat}, Rep h l i m fp z → (1 ≤ z ∧ (h = 0 ∨ 2 ≤ z)) → z ≤ 4 → Rise (ks m) → key ∈ ks m → (fp ++ fr).Nodup → fr.length + h ≤ 1000000 →
  ∃ l' fr' fp' z', DelQ h l fr i m fp z key l' fr' fp' z'
 | 0, l, i, m, fp, fr, z, r, hz1, hz, hr, hk, hnd, hfr => del_leaf r hz hr hk
 | h + 1, l, i, m, fp, fr, z, r, hz1, hz, hr, hk, hnd, hfr => by
  obtain ⟨d, g1, g2, g3⟩ := r.good hr (by omega)
  obtain ⟨d', cs, h1, h2, h3, h4, h5, h6, h7, h8⟩ := r
  rw [g1] at h1; obtain rfl := Option.some.inj h1
  have hi := getLt g1
  have hsl := h7.len
  have hq := g3.rise
  obtain ⟨A, c, B, e1, e2, e3, e4⟩ := way_split (key := key) h7 hq
  obtain ⟨y, y1, y2, y3⟩ := h8 c (by rw [e1]; simp)
  have hm : m = allM A ++ (c.m ++ allM B) := by rw [h4, e1, allM_split]
  have hrc : Rise (ks c.m) := by rw [hm] at hr; exact rise_sub hr
  have hkc : key ∈ ks c.m := by
   rw [hm, ks_append, ks_append] at hk
   simp only [List.mem_append] at hk
   rcases hk with hx | hx | hx
   ·have := e3 key hx; rw [sLt_irrefl] at this; cases this
   ·exact hx
   ·have := e4 key hx; rw [sLt_irrefl] at this; cases this
  have hP := fp_perm i A B c fr
  rw [← e1, ← h5] at hP
  have hnd' := hP.nodup_iff.1 hnd
  rw [List.nodup_append] at hnd'
  obtain ⟨n1, n2, n3⟩ := hnd'
  obtain ⟨l1, fr1, fp1, y', Q⟩ := del_rep (key := key) y3 ⟨by omega, .inr y1⟩ y2 hrc hkc n2 (by omega)
  have old1 : ∀ j ∈ i :: (allF A ++ allF B), l1[j]? = l[j]? := fun j hj => Q.out j (fun hx => n3 j hj j (List.mem_append_left _ hx) rfl)
  have hi1 : l1[i]? = some d := by rw [old1 i (by simp)]; exact g1
  have hltc : lb (ks c.m) key < c.m.length := by
   have := fnd_lt0 ((fnd_iff hrc).2 hkc)
   rwa [ks_length] at this
  have hdl : dlt m key = allM A ++ (dlt c.m key ++ allM B) := by rw [hm]; exact dlt_mid e3 (fun x hx => sLt_asymm (e4 x hx)) hltc
  have hrd : Rise (ks (dlt m key)) := rise_dlt hr
  have hrcd : Rise (ks (dlt c.m key)) := rise_dlt hrc
  have hkw : d.kids[wayN d key]? = some c.i := by rw [h2, wayN_eq, ← e2, e1]; simp
  have hne : d.kids ≠ [] := fun h0 => by rw [h0] at hkw; simp at hkw
  have hzz := Q.zz
  have hfl := Q.frl
  obtain ⟨dc, hdc, hsz, hgc⟩ := Q.rep.good hrcd (by omega)
  have hseps := way_seps (key := key) (c := c) (c' := ⟨c.i, dlt c.m key, fp1⟩) (B := B) (fun x hx => .inr (mem_dlt hx)) (A := A) (e1 ▸ h7) hq e2
  have hkid : ∀ x, x ∈ A ∨ x ∈ B → ∃ y, 2 ≤ y ∧ y ≤ 4 ∧ Rep h l1 x.i x.m x.fp y := by
   intro x hx
   obtain ⟨y, w1, w2, w3⟩ := h8 x (by rw [e1]; rcases hx with hx | hx <;> simp [hx])
   refine ⟨y, w1, w2, w3.frame fun j hj => old1 j (List.mem_cons_of_mem _ ?_)⟩
   rcases hx with hx | hx
   ·exact List.mem_append_left _ (List.mem_flatMap.2 ⟨x, hx, hj⟩)
   ·exact List.mem_append_right _ (List.mem_flatMap.2 ⟨x, hx, hj⟩)
  have hP1 := fp_perm i A B ⟨c.i, dlt c.m key, fp1⟩ fr1
  have hPP : (i :: allF (A ++ ⟨c.i, dlt c.m key, fp1⟩ :: B) ++ fr1).Perm (fp ++ fr) := hP1.trans ((Q.perm.append_left _).trans hP.symm)
  have hfpc : ∀ j, j ∉ fp → j ∉ c.fp := fun j h1 hx => h1 (by rw [h5, e1, allF_append, allF_cons]; simp [hx])
  have hsub : ∀ j ∈ i :: allF (A ++ ⟨c.i, dlt c.m key, fp1⟩ :: B), j ∈ fp := fun j hj => by
   rw [allF_append, allF_cons] at hj
   rw [h5, e1, allF_append, allF_cons]
   simp only [List.mem_cons, List.mem_append] at hj ⊢
   rcases hj with hj | hj | hj | hj
   ·exact .inl hj
   ·exact .inr (.inl hj)
   ·exact .inr (.inr (.inl (Q.sub j hj)))
   ·exact .inr (.inr (.inr hj))
  by_cases hy : 2 ≤ y'
  ·refine ⟨l1, fr1, i :: allF (A ++ ⟨c.i, dlt c.m key, fp1⟩ :: B), z, ⟨.deep d dc c.i g1 g3 hne hkw Q.r hi1 hdc hgc (by omega) (by omega), ?_, by omega, hPP, Q.len, fun j hj => Q.out j (hfpc j hj), Q.fre, by omega, hsub⟩⟩
   refine ⟨d, A ++ ⟨c.i, dlt c.m key, fp1⟩ :: B, hi1, by rw [h2, e1]; simp, h3, by rw [hdl, allM_split], rfl, by rw [h6, e1]; simp, hseps, fun x hx => ?_⟩
   simp only [List.mem_append, List.mem_cons] at hx
   rcases hx with hx | rfl | hx
   ·exact hkid x (.inl hx)
   ·exact ⟨y', hy, by omega, Q.rep⟩
   ·exact hkid x (.inr hx)
  ·have hy1 : y' = 1 := by omega
   have hrep := Q.rep
   rw [hy1] at hrep
   have hnd1 := hPP.nodup_iff.2 hnd
   rw [List.nodup_append] at hnd1
   have hcs : cs.length = A.length + B.length + 1 := by rw [e1]; simp; omega
   have hz2 : 2 ≤ z := by rcases hz1.2 with h0 | h0 <;> omega
   obtain ⟨l2, fr2, fp2, z2, M⟩ := mend_at (A := A) (c := ⟨c.i, dlt c.m key, fp1⟩) (B := B) (fr := fr1) hi1 g3 h3 (by rw [h2, e1]; simp) hseps hrep hkid (by omega) (by rw [allM_split, ← hdl]; exact hrd) hnd1.1 (by omega)
   have hmz := M.zz
   have hmf := M.frl
   refine ⟨l2, fr2, fp2, z2, ⟨.mend d dc c.i g1 g3 hne hkw Q.r hi1 hdc hgc (by omega) (by omega) (by rw [wayN_eq, ← e2]; exact M.r), by rw [hdl, ← allM_split (c := ⟨c.i, dlt c.m key, fp1⟩)]; exact M.rep, by omega, M.perm.trans hPP, by rw [M.len, Q.len], fun j hj => ?_, fun j hj => ?_, by omega, fun j hj => hsub j (M.sub j hj)⟩⟩
   ·rw [M.out j (fun hx => hj (hsub j hx))]
    exact Q.out j (hfpc j hj)
   ·rcases M.fre j hj with hx | hx
    ·rcases Q.fre j hx with hx2 | hx2
     ·exact .inl hx2
     ·right
      rw [M.out j fun h0 => hnd1.2.2 j h0 j hx rfl]; exact hx2
    ·exact .inr hx
end Go.Proofs.YtcpbibdbahfgaaaGreat
set_option linter.unusedSimpArgs false
namespace Go.Proofs.YtcpbibdbahfgaaaGreat
open Go.Eng
namespace FTree3
theorem ze_204 : (Tryz.prog.info? 204).map (·.zero) = some (some (.agg #[.slice none 0 0, .slice none 0 0, .int .i64 0, .int .i64 0])) := by kernel_rfl
theorem bu_204_2 (v2 : Value) (h2 : v2.cells = #[v2]) (w : World) : (Instr.build 204 #[(2, v2)]).run Tryz.prog w = .ok (.agg #[.slice none 0 0, .slice none 0 0, v2, .int .i64 0]) w := by
 have hz := @ze_204
 exact Go.Eng.run_build (pl := [(0, 1), (1, 1), (2, 1), (3, 1)]) hz Tryz.underlying204 (by kernel_rfl) rfl (by simp [Instr.fill, h2, cells_agg]) w
theorem fl_204_0 : Fld Tryz.prog 204 0 0 := ⟨_, _, 0, Tryz.underlying204, rfl, rfl, by kernel_rfl⟩
theorem one_202 : TyOne Tryz.prog 202 := ⟨⟨_, Tryz.underlying202, rfl⟩, by kernel_rfl⟩
theorem ze_231 : (Tryz.prog.info? 231).map (·.zero) = some (some (.agg #[.slice none 0 0, .slice none 0 0, .slice none 0 0])) := by kernel_rfl
theorem bu_231_n   (w : World) : (Instr.build 231 #[]).run Tryz.prog w = .ok (.agg #[.slice none 0 0, .slice none 0 0, .slice none 0 0]) w := by
 have hz := @ze_231
 exact Go.Eng.run_build (pl := [(0, 1), (1, 1), (2, 1)]) hz Tryz.underlying231 (by kernel_rfl) rfl (by simp [Instr.fill, cells_agg]) w
theorem sl_202 : TySl Tryz.prog 202 231 3 := ⟨Tryz.underlying202, by kernel_rfl⟩
theorem sz_231 : (Tryz.prog.info? 231).map (·.size) = some 3 := by kernel_rfl
theorem fl_204_1 : Fld Tryz.prog 204 1 1 := ⟨_, _, 0, Tryz.underlying204, rfl, rfl, by kernel_rfl⟩
theorem one_72 : TyOne Tryz.prog 72 := ⟨⟨_, Tryz.underlying72, rfl⟩, by kernel_rfl⟩
theorem sz_3 : (Tryz.prog.info? 3).map (·.size) = some 1 := by kernel_rfl
theorem ze_3 : (Tryz.prog.info? 3).map (·.zero) = some (some (.int .i64 0)) := by kernel_rfl
theorem bs_72_1 (v0 : Value) (h0 : v0.cells = #[v0]) (w : World) : (Instr.buildSlice 72 1 #[(0, v0)]).run Tryz.prog w = .ok (.slice (some ⟨w.heap.size, 0, none⟩) 1 1) { w with heap := w.heap.push (.cells #[v0] 3 (0, 0)) } :=
 Go.Eng.run_buildSlice Tryz.underlying72 sz_3 ze_3 (by decide) (by rw [show Array.range (1 * 1) = #[0] from by decide]; simp [Instr.fill, cells_agg, h0]) w
theorem el_72_eNat : TyEl Tryz.prog 72 eNat 8 := ⟨Tryz.underlying72, .int .i64 0, by kernel_rfl, rfl⟩
theorem sz_72 : (Tryz.prog.info? 72).map (·.size) = some 1 := by kernel_rfl
theorem sl_72 : TySl Tryz.prog 72 3 1 := ⟨Tryz.underlying72, by kernel_rfl⟩
theorem one_3 : TyOne Tryz.prog 3 := ⟨⟨_, Tryz.underlying3, rfl⟩, by kernel_rfl⟩
theorem ag_231 : TyAgg Tryz.prog 231 3 := ⟨⟨_, Tryz.underlying231, rfl⟩, by kernel_rfl⟩
theorem bs_202_1 (v0_0 v0_1 v0_2 : Value)  (w : World) : (Instr.buildSlice 202 1 #[(0, .agg #[v0_0, v0_1, v0_2])]).run Tryz.prog w = .ok (.slice (some ⟨w.heap.size, 0, none⟩) 1 1) { w with heap := w.heap.push (.cells #[v0_0, v0_1, v0_2] 231 (0, 0)) } :=
 Go.Eng.run_buildSlice Tryz.underlying202 sz_231 ze_231 (by decide) (by rw [show Array.range (1 * 3) = #[0, 1, 2] from by decide]; simp [Instr.fill, cells_agg]) w
theorem el_202_eNode : TyEl Tryz.prog 202 eNode 72 := ⟨Tryz.underlying202, .agg #[.slice none 0 0, .slice none 0 0, .slice none 0 0], by kernel_rfl, rfl⟩
theorem sz_202 : (Tryz.prog.info? 202).map (·.size) = some 1 := by kernel_rfl
end FTree3
open FTree3
theorem new_spec : Does Tryz.prog 115 [] [] (fun v l => ∃ b, v = .pointer (some ⟨b, 0, none⟩) ∧ l = TO b ⟨[], [], none, 0⟩ nilS nilS []) := by
 refine spec_of Tryz.func115 rfl Tryz.ntmps115 Tryz.results115 _ (by simp) fun ι F => ?_
 refine vc_seq ?_
 refine vc_region ?_
 refine vp ?_
 refine vc_nil ?_
 refine vc_then ?_
 refine vc_seq ?_
 refine vc_region ?_
 refine vc_y (y_build [(2, _)] [_, _, _, _] rfl (bu_204_2 _ rfl)) rfl ?_
 refine vc_box [_, _, _, _] rfl rfl rfl (fun b2 => ?_)
 refine vp ?_
 refine vc_nil ?_
 refine vc_then ?_
 refine vc_ret ?_
 exact vc_end1 Tryz.results115 rfl _ (show Ent _ (seps (TO b2 ⟨[], [], none, 0⟩ nilS nilS [])) from ent_cons (sl_new.trans (ent_cons (sl_new.trans (ent_cons Ent.empL))))) ⟨b2, rfl, rfl⟩
theorem drop_spec {b : Nat} {l : List Nd} {fr : List Nat} {r : Option Nat} {m : Int} {hl hf : SH} {hs : List Nd3} (hlen : hs.length = l.length) {i : Nat} (hi : i < l.length) (hb : fr.length ≤ 1000000) :
  Does Tryz.prog 162 [.pointer (some ⟨b, 0, none⟩), .int .i64 (i : Int)] (TO b ⟨l, fr, r, m⟩ hl hf hs) (fun v l2 => ∃ hf' hs', hs'.length = l.length ∧ (∀ j, j ≠ i → hs'[j]? = hs[j]?) ∧ v = .tuple #[] ∧ l2 = TO b ⟨l.set i nd0, fr ++ [i], r, m⟩ hl hf' hs') := by
 refine spec_of Tryz.func162 rfl Tryz.ntmps162 Tryz.results162 _ (by simp) fun ι F => ?_
 obtain ⟨h0, hh⟩ := getSome hlen (List.getElem?_eq_getElem hi)
 refine vc_seq ?_
 refine vc_region ?_
 refine vp ?_
 refine vp ?_
 refine vc_y (y_fieldP fl_204_0 0 rfl rfl) rfl ?_
 refine vc_y (y_load1 0 rfl one_202 rfl (Pts.vis rfl)) rfl ?_
 refine vp ?_
 refine vc_y (y_build [] [_, _, _] rfl (bu_231_n  )) rfl ?_
 refine vc_y (y_elem 1 rfl (Sl.vis) i rfl (by omega) sl_202 rfl rfl) rfl ?_
 refine vc_storeE 1 rfl [_, _, _] nil3 rfl rfl rfl sz_231 rfl hh (Nat.le_of_ble_eq_true rfl) rfl ?_
 refine vc_nil ?_
 refine vc_then ?_
 refine vc_region ?_
 iterate 3 refine vp ?_
 refine vc_y (y_fieldP fl_204_1 1 rfl rfl) rfl ?_
 refine vc_y (y_load1 0 rfl one_72 rfl (Pts.vis rfl)) rfl ?_
 refine vp ?_
 refine vc_buildSlice (E := eNat) [(0, _)] [i] rfl rfl (bs_72_1 _ rfl) rfl (fun h17 => ?_)
 refine vc_append 3 rfl 0 rfl (Sl.vis) el_72_eNat Tryz.underlying72 rfl rfl (by simp; omega) (by simp; omega) rfl (fun h18 => ?_)
 refine vp ?_
 refine vc_y (y_fieldP fl_204_1 1 rfl rfl) rfl ?_
 refine vc_storeP 1 rfl [_] [_, _, _, _] rfl rfl rfl sz_72 rfl rfl rfl ?_
 refine vc_nil ?_
 exact vc_end0n Tryz.results162 _ (ent_at [1, 1, 1, 1] rfl (ent_cons (ent_cons (ent_cons (ent_head (Ent.empL.trans ((Ent.sep NodeC.nil Ent.rfl).trans (Nodes.set hlen hi)))))))) ⟨h18, hs.set i nil3, by simp [hlen], fun j hj => by rw [List.getElem?_set_ne (Ne.symm hj)], rfl, rfl⟩
theorem add_spec {b : Nat} {l l' : List Nd} {fr fr' : List Nat} {r : Option Nat} {m : Int} {hl hf : SH} {hs : List Nd3} (hlen : hs.length = l.length) {h : Nd3} {d : Nd} {k : Nat} (hA : AddR l fr d k l' fr') :
  Does Tryz.prog 164 [.pointer (some ⟨b, 0, none⟩), .agg #[h.k.v, h.n.v, h.c.v]] (TO b ⟨l, fr, r, m⟩ hl hf hs ++ [Sl eStr h.k d.keys, Sl eInt h.n d.nums, Sl eNat h.c d.kids]) (fun v l2 => ∃ hl' hf' hs', hs'.length = l'.length ∧ hs'[k]? = some h ∧ (∀ j, j ≠ k → j < l.length → hs'[j]? = hs[j]?) ∧ v = .int .i64 (k : Int) ∧ l2 = TO b ⟨l', fr', r, m⟩ hl' hf' hs') := by
 refine spec_of Tryz.func164 rfl Tryz.ntmps164 Tryz.results164 _ (by simp) fun ι F => ?_
 refine vc_see 2 rfl (Sl.vis.imp fun w r => (⟨r.len, r.cap⟩ : hf.len = fr.length ∧ fr.length ≤ hf.cap)) (fun hfl => ?_)
 refine vc_see 1 rfl (Sl.vis.imp fun w r => r.len) (fun hll => ?_)
 refine vc_seq ?_
 refine vc_region ?_
 refine vc_box [_, _, _] rfl rfl rfl (fun b3 => ?_)
 refine vp ?_
 refine vc_nil ?_
 refine vc_then ?_
 refine vc_seq ?_
 refine vc_seq ?_
 refine vc_region ?_
 refine vp ?_
 refine vp ?_
 refine vc_y (y_fieldP fl_204_1 1 rfl rfl) rfl ?_
 refine vc_y (y_load1 1 rfl one_72 rfl (Pts.vis rfl)) rfl ?_
 refine vc_y (y_len Tryz.underlying72 rfl hfl.1) rfl ?_
 refine vp ?_
 refine vc_nil ?_
 refine vc_then ?_
 refine vc_seq ?_
 refine vc_region ?_
 refine vp ?_
 refine vp ?_
 refine vc_nil ?_
 refine vc_then ?_
 first | refine vc_condP rfl (fun c13 => ?_) (fun c13 => ?_) | refine vc_condN rfl (fun c13 => ?_) (fun c13 => ?_) | refine vc_cond rfl (fun c13 => ?_) (fun c13 => ?_)
 ·skip
  rcases hA with ⟨fr0, i, hf0, hi, hb⟩ | ⟨hf0, hb⟩
  rotate_left
  ·rw [hf0] at c13; simp at c13
  subst hf0
  obtain ⟨h0, hh⟩ := getSome hlen (List.getElem?_eq_getElem hi)
  rw [List.length_append, List.length_singleton] at hfl hb
  refine vc_seq ?_
  refine vc_region ?_
  refine vp ?_
  refine vp ?_
  refine vc_y (y_fieldP fl_204_1 1 rfl rfl) rfl ?_
  refine vc_y (y_load1 1 rfl one_72 rfl (Pts.vis rfl)) rfl ?_
  refine vp ?_
  refine vc_y (y_arith ((fr'.length : Nat) : Int) rfl (by rw [List.length_append, List.length_singleton]; exact wrapNsub (by omega))) rfl ?_
  refine vc_y (y_elem 3 rfl (Sl.vis) fr'.length rfl (by simp) sl_72 rfl rfl) rfl ?_
  refine vc_y (y_load1 3 rfl one_3 rfl (Rd.vis1 (Sl.vis) (show (fr' ++ [k])[fr'.length]? = some k by simp) rfl)) rfl ?_
  refine vp ?_
  refine vc_nil ?_
  refine vc_then ?_
  refine vc_seq ?_
  refine vc_region ?_
  iterate 3 refine vp ?_
  refine vc_y (y_fieldP fl_204_1 1 rfl rfl) rfl ?_
  refine vc_y (y_load1 1 rfl one_72 rfl (Pts.vis rfl)) rfl ?_
  refine vp ?_
  refine vc_y (y_arith ((fr'.length : Nat) : Int) rfl (by rw [List.length_append, List.length_singleton]; exact wrapNsub (by omega))) rfl ?_
  refine vc_y (y_slice sl_72 rfl 0 fr'.length hf.cap rfl ⟨_, _, rfl, rfl⟩ rfl (by simp) (by omega) (by omega) (by omega)) rfl ?_
  refine vp ?_
  refine vc_y (y_fieldP fl_204_1 1 rfl rfl) rfl ?_
  refine vc_storeP 1 rfl [_] [_, _, _, _] rfl rfl rfl sz_72 rfl rfl rfl ?_
  refine vc_nil ?_
  refine vc_then ?_
  refine vc_seq ?_
  refine vc_draw (by kernel_rfl) _ (some 7) [0, 0, 0] rfl ?_
  refine tpp 0 ?_
  refine tpp 1 ?_
  refine tp 2 rfl (by exact y_fieldP fl_204_0 0 rfl rfl) ?_
  refine tk 3 rfl (by exact y_load1 1 rfl one_202 rfl (Pts.vis rfl)) ?_
  refine tpp 4 ?_
  refine tk 5 rfl (by exact y_loadA 0 rfl (cs := [_, _, _]) ag_231 rfl (Pts.visA rfl)) ?_
  refine tk 6 rfl (by exact y_elem 2 rfl (Sl.vis) k rfl (by omega) sl_202 rfl rfl) ?_
  refine va_ready [7] (by kernel_rfl) rfl ?_
  refine vo_cons rfl (fun hC0 => ?_) ?_
  ·skip
   refine vc_storeE 2 rfl [_, _, _] h rfl rfl rfl sz_231 rfl hh (Nat.le_of_ble_eq_true rfl) rfl ?_
   refine vc_nil ?_
   refine vc_then ?_
   refine va_gone hC0 rfl ?_
   refine va_done (by kernel_rfl) ?_
   refine vc_then ?_
   refine vc_seq ?_
   refine vc_region ?_
   refine vp ?_
   refine vp ?_
   refine vc_nil ?_
   refine vc_then ?_
   refine vc_ret ?_
   refine vc_thenRet ?_
   exact vc_end1 Tryz.results164 rfl _ (ent_at [1, 1, 1, 2, 2, 2, 1] rfl (ent_cons (ent_cons ((ent_head (B := Sl eNat (hf.cut 1 0 fr'.length hf.cap) fr') (by have := Sl.cut (E := eNat) (h := hf) (xs := fr' ++ [k]) (lo := 0) (hi := fr'.length) (mx := hf.cap) (Nat.zero_le _) (by simp) (by omega) (Nat.le_refl _); rw [List.drop_zero, List.take_left] at this; exact this)).trans (ent_cons (ent_node.trans (Ent.sep (Nodes.set hlen hi) Ent.rfl))))))) ⟨hl, _, hs.set k h, by simp [hlen], by rw [List.getElem?_set_self (by omega)], fun j hj _ => by rw [List.getElem?_set_ne (Ne.symm hj)], rfl, rfl⟩
  exact vo_nil
 ·skip
  rcases hA with ⟨_, _, hf0, hi, hb⟩ | ⟨hf0, hb⟩
  ·rw [hf0] at c13; simp at c13
  subst hf0
  refine vc_skip ?_
  refine vc_then ?_
  refine vc_seq ?_
  refine vc_draw (by kernel_rfl) _ (some 10) [0, 0] rfl ?_
  refine tpp 0 ?_
  refine tpp 1 ?_
  refine tpp 2 ?_
  refine tp 3 rfl (by exact y_fieldP fl_204_0 0 rfl rfl) ?_
  refine tk 4 rfl (by exact y_load1 1 rfl one_202 rfl (Pts.vis rfl)) ?_
  refine tk 5 rfl (by exact y_loadA 0 rfl (cs := [_, _, _]) ag_231 rfl (Pts.visA rfl)) ?_
  refine va_ready [6] (by kernel_rfl) rfl ?_
  refine vo_cons rfl (fun hC0 => ?_) ?_
  ·skip
   refine vc_buildSlice (E := eNode) [(0, _)] [h] rfl rfl (bs_202_1 _ _ _ ) rfl (fun h46 => ?_)
   refine vc_nil ?_
   refine vc_then ?_
   refine va_kept hC0 [1, 1] rfl ?_
   refine va_ready [7] (by kernel_rfl) rfl ?_
   refine vo_cons rfl (fun hC0 => ?_) ?_
   ·skip
    refine vc_append 3 rfl 0 rfl (Sl.vis) el_202_eNode Tryz.underlying202 rfl rfl (by simp; omega) (by simp; omega) rfl (fun h47 => ?_)
    refine vc_nil ?_
    refine vc_then ?_
    refine va_kept hC0 [1, 1] rfl ?_
    refine tpp 8 ?_
    refine tp 9 rfl (by exact y_fieldP fl_204_0 0 rfl rfl) ?_
    refine va_ready [10] (by kernel_rfl) rfl ?_
    refine vo_cons rfl (fun hC0 => ?_) ?_
    ·skip
     refine vc_storeP 2 rfl [_] [_, _, _, _] rfl rfl rfl sz_202 rfl rfl rfl ?_
     refine vc_nil ?_
     refine vc_then ?_
     refine va_gone hC0 rfl ?_
     refine va_done (by kernel_rfl) ?_
     refine vc_then ?_
     refine vc_seq ?_
     refine vc_region ?_
     refine vc_see 3 rfl (Sl.vis.imp fun w r => r.len) (fun h47l => ?_)
     refine vp ?_
     refine vp ?_
     refine vc_y (y_fieldP fl_204_0 0 rfl rfl) rfl ?_
     refine vc_y (y_load1 2 rfl one_202 rfl (Pts.vis rfl)) rfl ?_
     refine vc_y (y_len Tryz.underlying202 rfl h47l) rfl ?_
     refine vc_y (y_arith ((l.length : Nat) : Int) rfl (by rw [List.length_append, List.length_singleton, hlen]; exact wrapNsub (by omega))) rfl ?_
     refine vp ?_
     refine vc_nil ?_
     refine vc_then ?_
     refine vc_ret ?_
     exact vc_end1 Tryz.results164 rfl _ (ent_at [2, 2, 2, 3, 3, 3, 2] rfl (ent_cons (ent_cons (ent_cons (ent_node.trans (Ent.sep (Nodes.push hlen) Ent.rfl)))))) ⟨h47, hf, hs ++ [h], by simp [hlen], by rw [List.getElem?_append_right (by omega)]; simp [hlen], fun j _ hj => by rw [List.getElem?_append_left (by omega)], rfl, rfl⟩
    exact vo_nil
   exact vo_nil
  exact vo_nil
end Go.Proofs.YtcpbibdbahfgaaaGreat
namespace Go.Proofs.YtcpbibdbahfgaaaGreat
open Go.Eng
namespace FTree4
theorem fl_204_0 : Fld Tryz.prog 204 0 0 := ⟨_, _, 0, Tryz.underlying204, rfl, rfl, by kernel_rfl⟩
theorem one_202 : TyOne Tryz.prog 202 := ⟨⟨_, Tryz.underlying202, rfl⟩, by kernel_rfl⟩
theorem sl_202 : TySl Tryz.prog 202 231 3 := ⟨Tryz.underlying202, by kernel_rfl⟩
theorem ag_231 : TyAgg Tryz.prog 231 3 := ⟨⟨_, Tryz.underlying231, rfl⟩, by kernel_rfl⟩
theorem ze_231 : (Tryz.prog.info? 231).map (·.zero) = some (some (.agg #[.slice none 0 0, .slice none 0 0, .slice none 0 0])) := by kernel_rfl
theorem sz_231 : (Tryz.prog.info? 231).map (·.size) = some 3 := by kernel_rfl
theorem ca_166 : Callable Tryz.prog 166 := ⟨_, _, Tryz.func166, rfl, rfl⟩
theorem ca_163 : Callable Tryz.prog 163 := ⟨_, _, Tryz.func163, rfl, rfl⟩
theorem fl_231_0 : Fld Tryz.prog 231 0 0 := ⟨_, _, 0, Tryz.underlying231, rfl, rfl, by kernel_rfl⟩
theorem one_136 : TyOne Tryz.prog 136 := ⟨⟨_, Tryz.underlying136, rfl⟩, by kernel_rfl⟩
theorem sl_136 : TySl Tryz.prog 136 9 1 := ⟨Tryz.underlying136, by kernel_rfl⟩
theorem fl_231_1 : Fld Tryz.prog 231 1 1 := ⟨_, _, 0, Tryz.underlying231, rfl, rfl, by kernel_rfl⟩
theorem one_72 : TyOne Tryz.prog 72 := ⟨⟨_, Tryz.underlying72, rfl⟩, by kernel_rfl⟩
theorem sl_72 : TySl Tryz.prog 72 3 1 := ⟨Tryz.underlying72, by kernel_rfl⟩
theorem ca_195 : Callable Tryz.prog 195 := ⟨_, _, Tryz.func195, rfl, rfl⟩
theorem ca_196 : Callable Tryz.prog 196 := ⟨_, _, Tryz.func196, rfl, rfl⟩
theorem bu_231_0_1 (v0 : Value) (v1 : Value) (h0 : v0.cells = #[v0]) (h1 : v1.cells = #[v1]) (w : World) : (Instr.build 231 #[(0, v0), (1, v1)]).run Tryz.prog w = .ok (.agg #[v0, v1, .slice none 0 0]) w := by
 have hz := @ze_231
 exact Go.Eng.run_build (pl := [(0, 1), (1, 1), (2, 1)]) hz Tryz.underlying231 (by kernel_rfl) rfl (by simp [Instr.fill, h0, h1, cells_agg]) w
theorem ca_164 : Callable Tryz.prog 164 := ⟨_, _, Tryz.func164, rfl, rfl⟩
theorem sz_136 : (Tryz.prog.info? 136).map (·.size) = some 1 := by kernel_rfl
theorem sz_72 : (Tryz.prog.info? 72).map (·.size) = some 1 := by kernel_rfl
theorem one_9 : TyOne Tryz.prog 9 := ⟨⟨_, Tryz.underlying9, rfl⟩, by kernel_rfl⟩
theorem fl_231_2 : Fld Tryz.prog 231 2 2 := ⟨_, _, 0, Tryz.underlying231, rfl, rfl, by kernel_rfl⟩
theorem bu_231_0_2 (v0 : Value) (v2 : Value) (h0 : v0.cells = #[v0]) (h2 : v2.cells = #[v2]) (w : World) : (Instr.build 231 #[(0, v0), (2, v2)]).run Tryz.prog w = .ok (.agg #[v0, .slice none 0 0, v2]) w := by
 have hz := @ze_231
 exact Go.Eng.run_build (pl := [(0, 1), (1, 1), (2, 1)]) hz Tryz.underlying231 (by kernel_rfl) rfl (by simp [Instr.fill, h0, h2, cells_agg]) w
end FTree4
open FTree4
theorem AddR.len {l l' : List Nd} {fr fr' : List Nat} {x : Nd} {k : Nat} (h : AddR l fr x k l' fr') : l.length ≤ l'.length ∧ k < l'.length ∧ l'[k]? = some x ∧ ∀ j, j ≠ k → j < l.length → l'[j]? = l[j]? := by
 rcases h with ⟨fr0, i, hf, hi, hb⟩ | ⟨hf, hb⟩
 ·refine ⟨by simp, by simp; exact hi, by rw [List.getElem?_set_self hi], fun j hj _ => by rw [List.getElem?_set_ne (Ne.symm hj)]⟩
 ·refine ⟨by simp, by simp, by rw [List.getElem?_append_right (by omega)]; simp, fun j _ hj => by rw [List.getElem?_append_left hj]⟩
theorem Nodes.turn {hs : List Nd3} {ds : List Nd} {i : Nat} {h h' : Nd3} {d d' : Nd} (e : hs[i]? = some h) (e' : ds[i]? = some d) (hE : Ent (NodeC h d) (NodeC h' d')) : Ent (Nodes hs ds) (Nodes (hs.set i h') (ds.set i d')) := by
 rw [← NodesX.nil, ← NodesX.nil]
 refine (NodesX.out (ho := []) (by simp) e e').trans ((Ent.sep hE Ent.rfl).trans ?_)
 exact NodesX.into List.not_mem_nil (by rw [List.getElem?_set_self (getLt e)]) (by rw [List.getElem?_set_self (getLt e')]) List.length_set (fun j hj _ => by rw [List.getElem?_set_ne (Ne.symm hj)]) (fun j hj _ => by rw [List.getElem?_set_ne (Ne.symm hj)])
theorem Sl.first {α : Type} {E : Enc α} {h : SH} {xs : List α} {i : Nat} (hi : i ≤ xs.length) (hc : i ≤ h.cap) : Ent (Sl E h xs) (Sl E (h.cut E.sz 0 i i) (xs.take i)) := by
 have := Sl.cut (E := E) (h := h) (xs := xs) (lo := 0) (hi := i) (mx := i) (Nat.zero_le _) hi (Nat.le_refl _) hc
 rwa [List.drop_zero] at this
theorem split_spec {b : Nat} {l l' : List Nd} {fr fr' : List Nat} {r : Option Nat} {m : Int} {hl hf : SH} {hs : List Nd3} (hlen : hs.length = l.length) {i k : Nat} {s : ByteArray} (hsp : SplitR l fr i k s l' fr') :
  Does Tryz.prog 167 [.pointer (some ⟨b, 0, none⟩), .int .i64 (i : Int)] (TO b ⟨l, fr, r, m⟩ hl hf hs) (fun v l2 => ∃ hl' hf' hs', hs'.length = l'.length ∧ v = .tuple #[.int .i64 (k : Int), .string s] ∧ l2 = TO b ⟨l', fr', r, m⟩ hl' hf' hs') := by
 refine spec_of Tryz.func167 rfl Tryz.ntmps167 Tryz.results167 _ (by simp) fun ι F => ?_
 obtain ⟨d, l1, hd, hg, hs0, hlf, hkd, hA, hki, rfl⟩ := hsp
 obtain ⟨h, hh⟩ := getSome hlen hd
 obtain ⟨hgr, hgk, hgn, hgc⟩ := hg
 refine vc_see 3 rfl ((Nodes.visK hh hd).imp fun w r => (⟨r.len, r.cap⟩ : h.k.len = d.keys.length ∧ d.keys.length ≤ h.k.cap)) (fun ek => ?_)
 refine vc_see 3 rfl ((Nodes.visN hh hd).imp fun w r => (⟨r.len, r.cap⟩ : h.n.len = d.nums.length ∧ d.nums.length ≤ h.n.cap)) (fun en => ?_)
 refine vc_see 3 rfl ((Nodes.visC hh hd).imp fun w r => (⟨r.len, r.cap⟩ : h.c.len = d.kids.length ∧ d.kids.length ≤ h.c.cap)) (fun ec => ?_)
 obtain ⟨al, akl, alk, alo⟩ := hA.len
 have hsz : sizeN d ≤ 1000000 := by unfold sizeN; split <;> omega
 refine vc_seq ?_
 refine vc_region ?_
 refine vp ?_
 refine vp ?_
 refine vc_nil ?_
 refine vc_then ?_
 refine vc_seq ?_
 refine vc_region ?_
 refine vp ?_
 refine vp ?_
 refine vc_y (y_fieldP fl_204_0 0 rfl rfl) rfl ?_
 refine vc_y (y_load1 0 rfl one_202 rfl (Pts.vis rfl)) rfl ?_
 refine vp ?_
 refine vc_y (y_elem 1 rfl (Sl.vis) i rfl (by have := getLt hh; omega) sl_202 rfl rfl) rfl ?_
 refine vc_y (y_loadA 1 rfl (cs := [_, _, _]) ag_231 rfl (Rd.visA (Sl.vis) hh rfl)) rfl ?_
 refine vc_alloc [.slice none 0 0, .slice none 0 0, .slice none 0 0] ze_231 rfl rfl (fun b6 => ?_)
 refine vc_storeP 0 rfl [_, _, _] [_, _, _] rfl rfl rfl sz_231 rfl rfl rfl ?_
 refine vc_nil ?_
 refine vc_then ?_
 refine vc_seq ?_
 refine vc_region ?_
 refine vc_callv ca_166 (us := []) (vs := []) rfl [_] rfl [0] rfl (size_specD (h := h) (d := d) (by rw [add_lit]; exact Pts.vis rfl) (by rw [add_lit]; exact Pts.vis rfl) ek.1 ec.1) rfl ?_
 rintro _ _ ⟨rfl, rfl⟩
 refine vc_y (y_quo ((sizeN d / 2 : Nat) : Int) rfl rfl (by decide) (half hsz)) rfl ?_
 refine vp ?_
 refine vc_nil ?_
 refine vc_then ?_
 refine vc_seq ?_
 refine vc_seq ?_
 refine vc_region ?_
 refine vc_callv ca_163 (us := []) (vs := []) rfl [_] rfl [0] rfl (leaf_specD (h := h) (d := d) (by rw [add_lit]; exact Pts.vis rfl) ec.1) rfl ?_
 rintro _ _ ⟨rfl, rfl⟩
 refine vc_nil ?_
 refine vc_then ?_
 first | refine vc_condP rfl (fun c19 => ?_) (fun c19 => ?_) | refine vc_condN rfl (fun c19 => ?_) (fun c19 => ?_) | refine vc_cond rfl (fun c19 => ?_) (fun c19 => ?_)
 ·skip
  have hkids : d.kids = [] := by simpa using c19
  have hsd : sizeN d = d.keys.length := by simp [sizeN, leafN, hkids]
  have hlk := hlf hkids
  have hck : cutK d = sizeN d / 2 := by simp [cutK, hkids, hsd]
  have hcR : cutR d = ⟨d.keys.drop (sizeN d / 2), d.nums.drop (sizeN d / 2), []⟩ := by simp [cutR, hkids, hsd]
  have hcL : cutL d = ⟨d.keys.take (sizeN d / 2), d.nums.take (sizeN d / 2), []⟩ := by simp [cutL, hkids, hsd]
  rw [hck] at hs0
  rw [hcR] at hA
  refine vc_seq ?_
  refine vc_draw (by kernel_rfl) _ none [0] rfl ?_
  refine tpp 0 ?_
  refine tp 1 rfl (by exact y_fieldP fl_231_0 0 rfl rfl) ?_
  refine tk 2 rfl (by exact y_load1 0 rfl one_136 rfl (Pts.vis rfl)) ?_
  refine tpp 3 ?_
  refine tp 4 rfl (by exact y_slice sl_136 rfl (sizeN d / 2) h.k.len h.k.cap ⟨_, _, rfl, rfl⟩ rfl rfl (by simp) (by omega) (by omega) (by omega)) ?_
  refine tp 6 rfl (by exact y_fieldP fl_231_1 1 rfl rfl) ?_
  refine tk 7 rfl (by exact y_load1 0 rfl one_72 rfl (Pts.vis rfl)) ?_
  refine tpp 8 ?_
  refine tp 9 rfl (by exact y_slice sl_72 rfl (sizeN d / 2) h.n.len h.n.cap ⟨_, _, rfl, rfl⟩ rfl rfl (by simp) (by omega) (by omega) (by omega)) ?_
  refine va_ready [5] (by kernel_rfl) rfl ?_
  refine vo_cons rfl (fun hC0 => ?_) ?_
  ·skip
   refine vc_callv ca_195 (us := []) (vs := []) rfl [_] rfl [4] rfl (cloneS_spec ((Nodes.visK hh hd).imp fun w r => r.cutD (by omega)) (by simp; omega)) rfl ?_
   rintro _ _ ⟨h25, rfl, rfl⟩
   refine vc_nil ?_
   refine vc_then ?_
   refine va_kept hC0 [2] rfl ?_
   clear hC0
   refine va_ready [10] (by kernel_rfl) rfl ?_
   refine vo_cons rfl (fun hC0 => ?_) ?_
   ·skip
    refine vc_callv ca_196 (us := []) (vs := []) rfl [_] rfl [1] rfl (cloneI_spec ((Nodes.visN hh hd).imp fun w r => r.cutD (by omega)) (by simp; omega)) rfl ?_
    rintro _ _ ⟨h30, rfl, rfl⟩
    refine vc_nil ?_
    refine vc_then ?_
    refine va_kept hC0 [3] rfl ?_
    clear hC0
    refine tp 11 rfl (by exact y_build [(0, _), (1, _)] [_, _, _] rfl (bu_231_0_1 _ _ rfl rfl)) ?_
    refine va_ready [12] (by kernel_rfl) rfl ?_
    refine vo_cons rfl (fun hC0 => ?_) ?_
    ·skip
     refine vc_ent (l' := Sl eNat nilS [] :: _) sl_new ?_
     refine vc_callv ca_164 (us := []) (vs := []) rfl [_, _] rfl [5, 5, 5, 2, 2, 1, 0] rfl (add_spec hlen (h := ⟨h25, h30, nilS⟩) hA) rfl ?_
     rintro _ _ ⟨hl1, hf1, hs1, ln1, hk1, ho1, rfl, rfl⟩
     refine vc_nil ?_
     refine vc_then ?_
     refine va_kept hC0 [4] rfl ?_
     clear hC0
     refine tpp 13 ?_
     refine va_done (by kernel_rfl) ?_
     refine vc_then ?_
     refine vc_seq ?_
     have hh1 : hs1[i]? = some h := by rw [ho1 i (Ne.symm hki) (getLt hd)]; exact hh
     have hd1 : l1[i]? = some d := by rw [alo i (Ne.symm hki) (getLt hd)]; exact hd
     refine vc_draw (by kernel_rfl) _ (some 22) [4, 0, 0] rfl ?_
     refine tpp 0 ?_
     refine tpp 1 ?_
     refine tp 2 rfl (by exact y_fieldP fl_204_0 0 rfl rfl) ?_
     refine tk 3 rfl (by exact y_load1 1 rfl one_202 rfl (Pts.vis rfl)) ?_
     refine tpp 4 ?_
     refine tpp 5 ?_
     refine tpp 6 ?_
     refine tp 7 rfl (by exact y_fieldP fl_204_0 0 rfl rfl) ?_
     refine tk 8 rfl (by exact y_load1 1 rfl one_202 rfl (Pts.vis rfl)) ?_
     refine tpp 9 ?_
     refine tp 10 rfl (by exact y_fieldP fl_231_0 0 rfl rfl) ?_
     refine tk 11 rfl (by exact y_load1 0 rfl one_136 rfl (Pts.vis rfl)) ?_
     refine tpp 12 ?_
     refine tpp 13 ?_
     refine tp 14 rfl (by exact y_slice sl_136 rfl 0 (sizeN d / 2) (sizeN d / 2) rfl ⟨_, _, rfl, rfl⟩ ⟨_, _, rfl, rfl⟩ (by simp) (by omega) (by omega) (by omega)) ?_
     refine tp 15 rfl (by exact y_fieldP fl_231_1 1 rfl rfl) ?_
     refine tk 16 rfl (by exact y_load1 0 rfl one_72 rfl (Pts.vis rfl)) ?_
     refine tpp 17 ?_
     refine tpp 18 ?_
     refine tp 19 rfl (by exact y_slice sl_72 rfl 0 (sizeN d / 2) (sizeN d / 2) rfl ⟨_, _, rfl, rfl⟩ ⟨_, _, rfl, rfl⟩ (by simp) (by omega) (by omega) (by omega)) ?_
     refine tk 20 rfl (by exact y_elem 2 rfl (Sl.vis) i rfl (getLt hh1) sl_202 rfl rfl) ?_
     refine tp 21 rfl (by exact y_fieldE fl_231_0 0 rfl rfl) ?_
     refine va_ready [22] (by kernel_rfl) rfl ?_
     refine vo_cons rfl (fun hC0 => ?_) ?_
     ·skip
      refine vc_storeE 1 rfl [_] ⟨h.k.cut 1 0 (sizeN d / 2) (sizeN d / 2), h.n, h.c⟩ rfl rfl rfl sz_136 rfl hh1 (Nat.le_of_ble_eq_true rfl) rfl ?_
      refine vc_nil ?_
      refine vc_then ?_
      refine va_gone hC0 (by kernel_rfl) ?_
      clear hC0
      refine va_ready [23] (by kernel_rfl) rfl ?_
      refine vo_cons rfl (fun hC0 => ?_) ?_
      ·skip
       refine vc_y (y_elem 1 rfl (Sl.vis) i rfl (by rw [List.length_set]; exact getLt hh1) sl_202 rfl rfl) rfl ?_
       refine vc_nil ?_
       refine vc_then ?_
       refine va_gone hC0 (by kernel_rfl) ?_
       clear hC0
       refine va_ready [24] (by kernel_rfl) rfl ?_
       refine vo_cons rfl (fun hC0 => ?_) ?_
       ·skip
        refine vc_y (y_fieldE fl_231_1 1 rfl rfl) rfl ?_
        refine vc_nil ?_
        refine vc_then ?_
        refine va_gone hC0 (by kernel_rfl) ?_
        clear hC0
        refine va_ready [25] (by kernel_rfl) rfl ?_
        refine vo_cons rfl (fun hC0 => ?_) ?_
        ·skip
         refine vc_storeE 1 rfl [_] ⟨h.k.cut 1 0 (sizeN d / 2) (sizeN d / 2), h.n.cut 1 0 (sizeN d / 2) (sizeN d / 2), h.c⟩ rfl rfl rfl sz_72 rfl (List.getElem?_set_self (getLt hh1)) (Nat.le_of_ble_eq_true rfl) rfl ?_
         refine vc_nil ?_
         refine vc_then ?_
         refine va_gone hC0 (by kernel_rfl) ?_
         clear hC0
         refine va_done (by kernel_rfl) ?_
         refine vc_then ?_
         refine vc_seq ?_
         refine vc_draw (by kernel_rfl) _ none [4, 3] rfl ?_
         refine tpp 0 ?_
         refine tp 1 rfl (by exact y_fieldP fl_231_0 0 rfl rfl) ?_
         refine tk 2 rfl (by exact y_load1 0 rfl one_136 rfl (Pts.vis rfl)) ?_
         refine tpp 3 ?_
         refine tk 4 rfl (by exact y_elem 1 rfl (Nodes.visK hh1 hd1) (sizeN d / 2) rfl (getLt hs0) sl_136 rfl rfl) ?_
         refine tk 5 rfl (by exact y_load1 1 rfl one_9 rfl (Rd.vis1 (Nodes.visK hh1 hd1) hs0 rfl)) ?_
         refine tpp 6 ?_
         refine tpp 7 ?_
         refine va_done (by kernel_rfl) ?_
         refine vc_then ?_
         refine vc_ret ?_
         refine vc_thenRet ?_
         exact vc_end2 Tryz.results167 rfl rfl _ (ent_at [0, 0, 0, 0] rfl (ent_cons (ent_cons (ent_cons (ent_head (B := Nodes ((hs1.set i ⟨h.k.cut 1 0 (sizeN d / 2) (sizeN d / 2), h.n, h.c⟩).set i ⟨h.k.cut 1 0 (sizeN d / 2) (sizeN d / 2), h.n.cut 1 0 (sizeN d / 2) (sizeN d / 2), h.c⟩) (l1.set i (cutL d))) (by rw [List.set_set, hcL]; exact Nodes.turn hh1 hd1 (Ent.sep (Sl.first (by omega) (by omega)) (Ent.sep (Sl.first (by omega) (by omega)) (by rw [hkids]; exact Ent.rfl))))))))) ⟨hl1, hf1, _, by simp [ln1], rfl, rfl⟩
        exact vo_nil
       exact vo_nil
      exact vo_nil
     exact vo_nil
    exact vo_nil
   exact vo_nil
  exact vo_nil
 ·skip
  have hkids : d.kids ≠ [] := by simpa using c19
  have hsd : sizeN d = d.kids.length := by simp [sizeN, leafN, hkids]
  obtain ⟨hk2, hkk⟩ := hkd hkids
  have hck : cutK d = sizeN d / 2 - 1 := by simp [cutK, hkids, hsd]
  have hcR : cutR d = ⟨d.keys.drop (sizeN d / 2), [], d.kids.drop (sizeN d / 2)⟩ := by simp [cutR, hkids, hsd]
  have hcL : cutL d = ⟨d.keys.take (sizeN d / 2 - 1), d.nums, d.kids.take (sizeN d / 2)⟩ := by simp [cutL, hkids, hsd]
  rw [hck] at hs0
  rw [hcR] at hA
  refine vc_skip ?_
  refine vc_then ?_
  refine vc_seq ?_
  refine vc_draw (by kernel_rfl) _ none [0] rfl ?_
  refine tpp 0 ?_
  refine tp 1 rfl (by exact y_fieldP fl_231_0 0 rfl rfl) ?_
  refine tk 2 rfl (by exact y_load1 0 rfl one_136 rfl (Pts.vis rfl)) ?_
  refine tpp 3 ?_
  refine tp 4 rfl (by exact y_slice sl_136 rfl (sizeN d / 2) h.k.len h.k.cap ⟨_, _, rfl, rfl⟩ rfl rfl (by simp) (by omega) (by omega) (by omega)) ?_
  refine tp 6 rfl (by exact y_fieldP fl_231_2 2 rfl rfl) ?_
  refine tk 7 rfl (by exact y_load1 0 rfl one_72 rfl (Pts.vis rfl)) ?_
  refine tpp 8 ?_
  refine tp 9 rfl (by exact y_slice sl_72 rfl (sizeN d / 2) h.c.len h.c.cap ⟨_, _, rfl, rfl⟩ rfl rfl (by simp) (by omega) (by omega) (by omega)) ?_
  refine va_ready [5] (by kernel_rfl) rfl ?_
  refine vo_cons rfl (fun hC0 => ?_) ?_
  ·skip
   refine vc_callv ca_195 (us := []) (vs := []) rfl [_] rfl [4] rfl (cloneS_spec ((Nodes.visK hh hd).imp fun w r => r.cutD (by omega)) (by simp; omega)) rfl ?_
   rintro _ _ ⟨h68, rfl, rfl⟩
   refine vc_nil ?_
   refine vc_then ?_
   refine va_kept hC0 [2] rfl ?_
   clear hC0
   refine va_ready [10] (by kernel_rfl) rfl ?_
   refine vo_cons rfl (fun hC0 => ?_) ?_
   ·skip
    refine vc_callv ca_196 (us := []) (vs := []) rfl [_] rfl [1] rfl (cloneN_spec ((Nodes.visC hh hd).imp fun w r => r.cutD (by omega)) (by simp; omega)) rfl ?_
    rintro _ _ ⟨h73, rfl, rfl⟩
    refine vc_nil ?_
    refine vc_then ?_
    refine va_kept hC0 [3] rfl ?_
    clear hC0
    refine tp 11 rfl (by exact y_build [(0, _), (2, _)] [_, _, _] rfl (bu_231_0_2 _ _ rfl rfl)) ?_
    refine va_ready [12] (by kernel_rfl) rfl ?_
    refine vo_cons rfl (fun hC0 => ?_) ?_
    ·skip
     refine vc_ent (l' := Sl eInt nilS [] :: _) sl_new ?_
     refine vc_callv ca_164 (us := []) (vs := []) rfl [_, _] rfl [5, 5, 5, 2, 2, 0, 0] rfl (add_spec hlen (h := ⟨h68, nilS, h73⟩) hA) rfl ?_
     rintro _ _ ⟨hl1, hf1, hs1, ln1, hk1, ho1, rfl, rfl⟩
     refine vc_nil ?_
     refine vc_then ?_
     refine va_kept hC0 [4] rfl ?_
     clear hC0
     refine tpp 13 ?_
     refine va_done (by kernel_rfl) ?_
     refine vc_then ?_
     refine vc_seq ?_
     have hh1 : hs1[i]? = some h := by rw [ho1 i (Ne.symm hki) (getLt hd)]; exact hh
     have hd1 : l1[i]? = some d := by rw [alo i (Ne.symm hki) (getLt hd)]; exact hd
     refine vc_draw (by kernel_rfl) _ (some 24) [4, 0, 0] rfl ?_
     refine tpp 0 ?_
     refine tpp 1 ?_
     refine tp 2 rfl (by exact y_fieldP fl_204_0 0 rfl rfl) ?_
     refine tk 3 rfl (by exact y_load1 1 rfl one_202 rfl (Pts.vis rfl)) ?_
     refine tpp 4 ?_
     refine tpp 5 ?_
     refine tpp 6 ?_
     refine tp 7 rfl (by exact y_fieldP fl_204_0 0 rfl rfl) ?_
     refine tk 8 rfl (by exact y_load1 1 rfl one_202 rfl (Pts.vis rfl)) ?_
     refine tpp 9 ?_
     refine tp 10 rfl (by exact y_fieldP fl_231_0 0 rfl rfl) ?_
     refine tk 11 rfl (by exact y_load1 0 rfl one_136 rfl (Pts.vis rfl)) ?_
     refine tpp 12 ?_
     refine tp 13 rfl (by exact y_arith ((sizeN d / 2 - 1 : Nat) : Int) rfl (wrapNsub (by omega))) ?_
     refine tpp 14 ?_
     refine tp 15 rfl (by exact y_arith ((sizeN d / 2 - 1 : Nat) : Int) rfl (wrapNsub (by omega))) ?_
     refine tp 16 rfl (by exact y_slice sl_136 rfl 0 (sizeN d / 2 - 1) (sizeN d / 2 - 1) rfl ⟨_, _, rfl, rfl⟩ ⟨_, _, rfl, rfl⟩ (by simp) (by omega) (by omega) (by omega)) ?_
     refine tp 17 rfl (by exact y_fieldP fl_231_2 2 rfl rfl) ?_
     refine tk 18 rfl (by exact y_load1 0 rfl one_72 rfl (Pts.vis rfl)) ?_
     refine tpp 19 ?_
     refine tpp 20 ?_
     refine tp 21 rfl (by exact y_slice sl_72 rfl 0 (sizeN d / 2) (sizeN d / 2) rfl ⟨_, _, rfl, rfl⟩ ⟨_, _, rfl, rfl⟩ (by simp) (by omega) (by omega) (by omega)) ?_
     refine tk 22 rfl (by exact y_elem 2 rfl (Sl.vis) i rfl (getLt hh1) sl_202 rfl rfl) ?_
     refine tp 23 rfl (by exact y_fieldE fl_231_0 0 rfl rfl) ?_
     refine va_ready [24] (by kernel_rfl) rfl ?_
     refine vo_cons rfl (fun hC0 => ?_) ?_
     ·skip
      refine vc_storeE 1 rfl [_] ⟨h.k.cut 1 0 (sizeN d / 2 - 1) (sizeN d / 2 - 1), h.n, h.c⟩ rfl rfl rfl sz_136 rfl hh1 (Nat.le_of_ble_eq_true rfl) rfl ?_
      refine vc_nil ?_
      refine vc_then ?_
      refine va_gone hC0 (by kernel_rfl) ?_
      clear hC0
      refine va_ready [25] (by kernel_rfl) rfl ?_
      refine vo_cons rfl (fun hC0 => ?_) ?_
      ·skip
       refine vc_y (y_elem 1 rfl (Sl.vis) i rfl (by rw [List.length_set]; exact getLt hh1) sl_202 rfl rfl) rfl ?_
       refine vc_nil ?_
       refine vc_then ?_
       refine va_gone hC0 (by kernel_rfl) ?_
       clear hC0
       refine va_ready [26] (by kernel_rfl) rfl ?_
       refine vo_cons rfl (fun hC0 => ?_) ?_
       ·skip
        refine vc_y (y_fieldE fl_231_2 2 rfl rfl) rfl ?_
        refine vc_nil ?_
        refine vc_then ?_
        refine va_gone hC0 (by kernel_rfl) ?_
        clear hC0
        refine va_ready [27] (by kernel_rfl) rfl ?_
        refine vo_cons rfl (fun hC0 => ?_) ?_
        ·skip
         refine vc_storeE 1 rfl [_] ⟨h.k.cut 1 0 (sizeN d / 2 - 1) (sizeN d / 2 - 1), h.n, h.c.cut 1 0 (sizeN d / 2) (sizeN d / 2)⟩ rfl rfl rfl sz_72 rfl (List.getElem?_set_self (getLt hh1)) (Nat.le_of_ble_eq_true rfl) rfl ?_
         refine vc_nil ?_
         refine vc_then ?_
         refine va_gone hC0 (by kernel_rfl) ?_
         clear hC0
         refine va_done (by kernel_rfl) ?_
         refine vc_then ?_
         refine vc_seq ?_
         refine vc_draw (by kernel_rfl) _ none [4, 3] rfl ?_
         refine tpp 0 ?_
         refine tp 1 rfl (by exact y_fieldP fl_231_0 0 rfl rfl) ?_
         refine tk 2 rfl (by exact y_load1 0 rfl one_136 rfl (Pts.vis rfl)) ?_
         refine tpp 3 ?_
         refine tp 4 rfl (by exact y_arith ((sizeN d / 2 - 1 : Nat) : Int) rfl (wrapNsub (by omega))) ?_
         refine tk 5 rfl (by exact y_elem 1 rfl (Nodes.visK hh1 hd1) (sizeN d / 2 - 1) rfl (getLt hs0) sl_136 rfl rfl) ?_
         refine tk 6 rfl (by exact y_load1 1 rfl one_9 rfl (Rd.vis1 (Nodes.visK hh1 hd1) hs0 rfl)) ?_
         refine tpp 7 ?_
         refine tpp 8 ?_
         refine va_done (by kernel_rfl) ?_
         refine vc_then ?_
         refine vc_ret ?_
         exact vc_end2 Tryz.results167 rfl rfl _ (ent_at [0, 0, 0, 0] rfl (ent_cons (ent_cons (ent_cons (ent_head (B := Nodes ((hs1.set i ⟨h.k.cut 1 0 (sizeN d / 2 - 1) (sizeN d / 2 - 1), h.n, h.c⟩).set i ⟨h.k.cut 1 0 (sizeN d / 2 - 1) (sizeN d / 2 - 1), h.n, h.c.cut 1 0 (sizeN d / 2) (sizeN d / 2)⟩) (l1.set i (cutL d))) (by rw [List.set_set, hcL]; exact Nodes.turn hh1 hd1 (Ent.sep (Sl.first (by omega) (by omega)) (Ent.sep Ent.rfl (Sl.first (by omega) (by omega)))))))))) ⟨hl1, hf1, _, by simp [ln1], rfl, rfl⟩
        exact vo_nil
       exact vo_nil
      exact vo_nil
     exact vo_nil
    exact vo_nil
   exact vo_nil
  exact vo_nil
end Go.Proofs.YtcpbibdbahfgaaaGreat
namespace Go.Proofs.YtcpbibdbahfgaaaGreat
open Go.Eng
namespace FTree5
theorem fl_204_0 : Fld Tryz.prog 204 0 0 := ⟨_, _, 0, Tryz.underlying204, rfl, rfl, by kernel_rfl⟩
theorem one_202 : TyOne Tryz.prog 202 := ⟨⟨_, Tryz.underlying202, rfl⟩, by kernel_rfl⟩
theorem sl_202 : TySl Tryz.prog 202 231 3 := ⟨Tryz.underlying202, by kernel_rfl⟩
theorem ca_163 : Callable Tryz.prog 163 := ⟨_, _, Tryz.func163, rfl, rfl⟩
theorem fl_231_0 : Fld Tryz.prog 231 0 0 := ⟨_, _, 0, Tryz.underlying231, rfl, rfl, by kernel_rfl⟩
theorem one_136 : TyOne Tryz.prog 136 := ⟨⟨_, Tryz.underlying136, rfl⟩, by kernel_rfl⟩
theorem ca_168 : Callable Tryz.prog 168 := ⟨_, _, Tryz.func168, rfl, rfl⟩
theorem fl_231_1 : Fld Tryz.prog 231 1 1 := ⟨_, _, 0, Tryz.underlying231, rfl, rfl, by kernel_rfl⟩
theorem one_72 : TyOne Tryz.prog 72 := ⟨⟨_, Tryz.underlying72, rfl⟩, by kernel_rfl⟩
theorem sz_9 : (Tryz.prog.info? 9).map (·.size) = some 1 := by kernel_rfl
theorem ze_9 : (Tryz.prog.info? 9).map (·.zero) = some (some (.string ⟨#[]⟩)) := by kernel_rfl
theorem bs_136_1 (v0 : Value) (h0 : v0.cells = #[v0]) (w : World) : (Instr.buildSlice 136 1 #[(0, v0)]).run Tryz.prog w = .ok (.slice (some ⟨w.heap.size, 0, none⟩) 1 1) { w with heap := w.heap.push (.cells #[v0] 9 (0, 0)) } :=
  Go.Eng.run_buildSlice Tryz.underlying136 sz_9 ze_9 (by decide) (by rw [show Array.range (1 * 1) = #[0] from by decide]; simp [Instr.fill, cells_agg, h0]) w
theorem ca_193 : Callable Tryz.prog 193 := ⟨_, _, Tryz.func193, rfl, rfl⟩
theorem sz_3 : (Tryz.prog.info? 3).map (·.size) = some 1 := by kernel_rfl
theorem ze_3 : (Tryz.prog.info? 3).map (·.zero) = some (some (.int .i64 0)) := by kernel_rfl
theorem bs_72_1 (v0 : Value) (h0 : v0.cells = #[v0]) (w : World) : (Instr.buildSlice 72 1 #[(0, v0)]).run Tryz.prog w = .ok (.slice (some ⟨w.heap.size, 0, none⟩) 1 1) { w with heap := w.heap.push (.cells #[v0] 3 (0, 0)) } :=
  Go.Eng.run_buildSlice Tryz.underlying72 sz_3 ze_3 (by decide) (by rw [show Array.range (1 * 1) = #[0] from by decide]; simp [Instr.fill, cells_agg, h0]) w
theorem ca_194 : Callable Tryz.prog 194 := ⟨_, _, Tryz.func194, rfl, rfl⟩
theorem sz_136 : (Tryz.prog.info? 136).map (·.size) = some 1 := by kernel_rfl
theorem sz_72 : (Tryz.prog.info? 72).map (·.size) = some 1 := by kernel_rfl
theorem ca_169 : Callable Tryz.prog 169 := ⟨_, _, Tryz.func169, rfl, rfl⟩
theorem fl_231_2 : Fld Tryz.prog 231 2 2 := ⟨_, _, 0, Tryz.underlying231, rfl, rfl, by kernel_rfl⟩
theorem sl_72 : TySl Tryz.prog 72 3 1 := ⟨Tryz.underlying72, by kernel_rfl⟩
theorem one_3 : TyOne Tryz.prog 3 := ⟨⟨_, Tryz.underlying3, rfl⟩, by kernel_rfl⟩
theorem ca_165 : Callable Tryz.prog 165 := ⟨_, _, Tryz.func165, rfl, rfl⟩
theorem ca_166 : Callable Tryz.prog 166 := ⟨_, _, Tryz.func166, rfl, rfl⟩
theorem ca_167 : Callable Tryz.prog 167 := ⟨_, _, Tryz.func167, rfl, rfl⟩
end FTree5
open FTree5
theorem PutR.inv {key : ByteArray} {n : Int} {f : Nat} {l l' : List Nd} {fr fr' : List Nat} {i : Nat} (h : PutR key n f l fr i l' fr') : ∃ f' d, f = f' + 1 ∧ l[i]? = some d ∧ Good d ∧
    ((d.kids = [] ∧ d.nums.length = d.keys.length ∧ l' = l.set i (insL d key n) ∧ fr' = fr) ∨
     (d.kids ≠ [] ∧ ∃ c dc l1 fr1, d.kids[wayN d key]? = some c ∧ PutR key n f' l fr c l1 fr1 ∧ l1[c]? = some dc ∧ Good dc ∧
      ((sizeN dc ≤ 4 ∧ l' = l1 ∧ fr' = fr1) ∨ (4 < sizeN dc ∧ ∃ k s l2 d2, SplitR l1 fr1 c k s l2 fr' ∧ l2[i]? = some d2 ∧ Good d2 ∧ wayN d key ≤ d2.keys.length ∧ wayN d key + 1 ≤ d2.kids.length ∧ l' = l2.set i (insK d2 (wayN d key) s k))))) := by
  cases h with
  | leaf d hd hg hk hn => exact ⟨_, d, rfl, hd, hg, .inl ⟨hk, hn, rfl, rfl⟩⟩
  | deep d dc c hd hg hk hc hp hdc hgc hs => exact ⟨_, d, rfl, hd, hg, .inr ⟨hk, c, dc, _, _, hc, hp, hdc, hgc, .inl ⟨hs, rfl, rfl⟩⟩⟩
  | split d dc d2 c k s hd hg hk hc hp hdc hgc hs hsp hd2 hg2 hw hw2 => exact ⟨_, d, rfl, hd, hg, .inr ⟨hk, c, dc, _, _, hc, hp, hdc, hgc, .inr ⟨hs, k, s, _, d2, hsp, hd2, hg2, hw, hw2, rfl⟩⟩⟩
theorem fnd_lt {xs : List ByteArray} {k : ByteArray} (h : fnd xs k = true) : lb xs k < xs.length := by
  simp only [fnd] at h
  split at h
  · rename_i hx; exact getLt hx
  · cases h
theorem wayN_le (d : Nd) (key : ByteArray) : wayN d key ≤ d.keys.length := by
  have hlb := lb_le d.keys key
  unfold wayN
  split
  · rename_i h; have := fnd_lt h; omega
  · exact hlb
theorem put_step {b : Nat} {l l' : List Nd} {fr fr' : List Nat} {r : Option Nat} {m : Int} {hl hf : SH} {hs : List Nd3} (hlen : hs.length = l.length) (key : ByteArray) (n : Int) {f i : Nat} (hp : PutR key n (f + 1) l fr i l' fr')
    (ih : ∀ (c : Nat) (l1 : List Nd) (fr1 : List Nat), PutR key n f l fr c l1 fr1 → Does Tryz.prog 165 [.pointer (some ⟨b, 0, none⟩), .int .i64 (c : Int), .string key, .int .i64 n] (TO b ⟨l, fr, r, m⟩ hl hf hs) (fun v l2 => ∃ hl' hf' hs', hs'.length = l1.length ∧ v = .tuple #[] ∧ l2 = TO b ⟨l1, fr1, r, m⟩ hl' hf' hs')) :
    Does Tryz.prog 165 [.pointer (some ⟨b, 0, none⟩), .int .i64 (i : Int), .string key, .int .i64 n] (TO b ⟨l, fr, r, m⟩ hl hf hs) (fun v l2 => ∃ hl' hf' hs', hs'.length = l'.length ∧ v = .tuple #[] ∧ l2 = TO b ⟨l', fr', r, m⟩ hl' hf' hs') := by
  refine spec_of Tryz.func165 rfl Tryz.ntmps165 Tryz.results165 _ (by simp) fun ι F => ?_
  obtain ⟨f', d, hf', hd, hg, hcase⟩ := hp.inv
  obtain rfl := Nat.succ.inj hf'
  obtain ⟨h, hh⟩ := getSome hlen hd
  obtain ⟨hgr, hgk, hgn, hgc⟩ := hg
  refine vc_see 3 rfl ((Nodes.visK hh hd).imp fun w r => r.len) (fun ek0 => ?_)
  refine vc_see 3 rfl ((Nodes.visN hh hd).imp fun w r => r.len) (fun en0 => ?_)
  refine vc_see 3 rfl ((Nodes.visC hh hd).imp fun w r => r.len) (fun ec0 => ?_)
  have hlb := lb_le d.keys key
  have hwl := wayN_le d key
  refine vc_seq ?_
  refine vc_region ?_
  refine vp ?_
  refine vp ?_
  refine vc_y (y_fieldP fl_204_0 0 rfl rfl) rfl ?_
  refine vc_y (y_load1 0 rfl one_202 rfl (Pts.vis rfl)) rfl ?_
  refine vp ?_
  refine vc_y (y_elem 1 rfl (Sl.vis) i rfl (getLt hh) sl_202 rfl rfl) rfl ?_
  refine vp ?_
  refine vc_nil ?_
  refine vc_then ?_
  refine vc_seq ?_
  refine vc_seq ?_
  refine vc_region ?_
  refine vp ?_
  refine vc_callv ca_163 (us := []) (vs := []) rfl [_] rfl [1] rfl (leaf_specD (h := h) (d := d) (Rd.vis1 Sl.vis hh rfl) ec0) rfl ?_
  rintro _ _ ⟨rfl, rfl⟩
  refine vc_nil ?_
  refine vc_then ?_
  first | refine vc_condP rfl (fun c22 => ?_) (fun c22 => ?_) | refine vc_condN rfl (fun c22 => ?_) (fun c22 => ?_) | refine vc_cond rfl (fun c22 => ?_) (fun c22 => ?_)
  · skip
    have hk0 : d.kids = [] := by simpa using c22
    obtain ⟨hn, rfl, rfl⟩ : d.nums.length = d.keys.length ∧ l' = l.set i (insL d key n) ∧ fr' = fr := by
      rcases hcase with h0 | h0
      · exact h0.2
      · exact absurd hk0 h0.1
    refine vc_seq ?_
    refine vc_region ?_
    refine vp ?_
    refine vp ?_
    refine vc_y (y_fieldE fl_231_0 0 rfl rfl) rfl ?_
    refine vc_y (y_load1 0 rfl one_136 rfl (Rd.vis1 (Sl.vis) hh rfl)) rfl ?_
    refine vp ?_
    refine vc_callv ca_168 (us := []) (vs := []) rfl [_, _] rfl [3] rfl (bsS_spec (Nodes.visK hh hd) hgr key (by omega)) rfl ?_
    rintro _ _ ⟨rfl, rfl⟩
    iterate 5 refine vp ?_
    refine vc_nil ?_
    refine vc_then ?_
    refine vc_seq ?_
    refine vc_openN 0 rfl hh hd ?_
    refine vc_draw (by kernel_rfl) _ (some 20) [4] rfl ?_
    refine tpp 0 ?_
    refine tpp 1 ?_
    refine tpp 2 ?_
    refine tpp 3 ?_
    refine tp 4 rfl (by exact y_fieldE fl_231_0 0 rfl rfl) ?_
    refine tk 5 rfl (by exact y_load1 0 rfl one_136 rfl (Rd.vis1 (Sl.vis) hh rfl)) ?_
    refine tpp 6 ?_
    refine tpp 7 ?_
    refine tpp 10 ?_
    refine tpp 11 ?_
    refine tp 12 rfl (by exact y_fieldE fl_231_1 1 rfl rfl) ?_
    refine tk 13 rfl (by exact y_load1 0 rfl one_72 rfl (Rd.vis1 (Sl.vis) hh rfl)) ?_
    refine tpp 14 ?_
    refine tpp 15 ?_
    refine va_ready [8, 16] (by kernel_rfl) rfl ?_
    refine vo_cons rfl (fun hC0 => ?_) ?_
    · skip
      refine vc_buildSlice (E := eStr) [(0, _)] [key] rfl rfl (bs_136_1 _ rfl) rfl (fun h40 => ?_)
      refine vc_nil ?_
      refine vc_then ?_
      refine va_kept hC0 [5] rfl ?_
      clear hC0
      refine va_ready [9, 16] (by kernel_rfl) rfl ?_
      refine vo_cons rfl (fun hC0 => ?_) ?_
      · skip
        refine vc_callv ca_193 (us := []) (vs := []) rfl [_, _, _] rfl [1, 0] rfl (insS_spec hlb (by omega)) rfl ?_
        rintro _ _ ⟨h41, rfl, rfl⟩
        refine vc_nil ?_
        refine vc_then ?_
        refine va_kept hC0 [4] rfl ?_
        clear hC0
        refine va_ready [16] (by kernel_rfl) rfl ?_
        refine vo_cons rfl (fun hC0 => ?_) ?_
        · skip
          refine vc_buildSlice (E := eInt) [(0, _)] [n] rfl rfl (bs_72_1 _ rfl) rfl (fun h48 => ?_)
          refine vc_nil ?_
          refine vc_then ?_
          refine va_kept hC0 [5] rfl ?_
          clear hC0
          refine va_ready [17] (by kernel_rfl) rfl ?_
          refine vo_cons rfl (fun hC0 => ?_) ?_
          · skip
            refine vc_callv ca_194 (us := []) (vs := []) rfl [_, _, _] rfl [2, 0] rfl (insI_spec (by omega) (by omega)) rfl ?_
            rintro _ _ ⟨h49, rfl, rfl⟩
            refine vc_nil ?_
            refine vc_then ?_
            refine va_kept hC0 [4] rfl ?_
            clear hC0
            refine tpp 18 ?_
            refine tp 19 rfl (by exact y_fieldE fl_231_0 0 rfl rfl) ?_
            refine va_ready [20] (by kernel_rfl) rfl ?_
            refine vo_cons rfl (fun hC0 => ?_) ?_
            · skip
              refine vc_storeE 4 rfl [_] ⟨h41, h.n, h.c⟩ rfl rfl rfl sz_136 rfl hh (Nat.le_of_ble_eq_true rfl) rfl ?_
              refine vc_nil ?_
              refine vc_then ?_
              refine va_gone hC0 (by kernel_rfl) ?_
              clear hC0
              refine va_ready [21] (by kernel_rfl) rfl ?_
              refine vo_cons rfl (fun hC0 => ?_) ?_
              · skip
                refine vp ?_
                refine vc_nil ?_
                refine vc_then ?_
                refine va_gone hC0 (by kernel_rfl) ?_
                clear hC0
                refine va_ready [22] (by kernel_rfl) rfl ?_
                refine vo_cons rfl (fun hC0 => ?_) ?_
                · skip
                  refine vc_y (y_fieldE fl_231_1 1 rfl rfl) rfl ?_
                  refine vc_nil ?_
                  refine vc_then ?_
                  refine va_gone hC0 (by kernel_rfl) ?_
                  clear hC0
                  refine va_ready [23] (by kernel_rfl) rfl ?_
                  refine vo_cons rfl (fun hC0 => ?_) ?_
                  · skip
                    refine vc_storeE 4 rfl [_] ⟨h41, h49, h.c⟩ rfl rfl rfl sz_72 rfl (List.getElem?_set_self (getLt hh)) (Nat.le_of_ble_eq_true rfl) rfl ?_
                    refine vc_nil ?_
                    refine vc_then ?_
                    refine va_gone hC0 (by kernel_rfl) ?_
                    clear hC0
                    refine va_done (by kernel_rfl) ?_
                    refine vc_then ?_
                    refine vc_ret ?_
                    refine vc_thenRet ?_
                    exact vc_end0 Tryz.results165  _ (ent_at [5, 4, 4, 1, 0, 0, 0] rfl (ent_cons (ent_cons (ent_cons (ent_closeN ⟨h41, h49, h.c⟩ (insL d key n) (List.getElem?_set_self (by rw [List.length_set]; exact getLt hh)) (List.getElem?_set_self (getLt hd)) List.length_set (fun j hj => by rw [List.getElem?_set_ne (Ne.symm hj), List.getElem?_set_ne (Ne.symm hj)]) (fun j hj => by rw [List.getElem?_set_ne (Ne.symm hj)])))))) ⟨hl, hf, _, by simp [hlen], rfl, rfl⟩
                  exact vo_nil
                exact vo_nil
              exact vo_nil
            exact vo_nil
          exact vo_nil
        exact vo_nil
      refine vo_cons rfl (fun hC0 => ?_) ?_
      · skip
        refine vc_buildSlice (E := eInt) [(0, _)] [n] rfl rfl (bs_72_1 _ rfl) rfl (fun h48 => ?_)
        refine vc_nil ?_
        refine vc_then ?_
        refine va_kept hC0 [6] rfl ?_
        clear hC0
        refine va_ready [9] (by kernel_rfl) rfl ?_
        refine vo_cons rfl (fun hC0 => ?_) ?_
        · skip
          refine vc_callv ca_193 (us := []) (vs := []) rfl [_, _, _] rfl [2, 1] rfl (insS_spec hlb (by omega)) rfl ?_
          rintro _ _ ⟨h41, rfl, rfl⟩
          refine vc_nil ?_
          refine vc_then ?_
          refine va_kept hC0 [5] rfl ?_
          clear hC0
          refine va_ready [17] (by kernel_rfl) rfl ?_
          refine vo_cons rfl (fun hC0 => ?_) ?_
          · skip
            refine vc_callv ca_194 (us := []) (vs := []) rfl [_, _, _] rfl [2, 1] rfl (insI_spec (by omega) (by omega)) rfl ?_
            rintro _ _ ⟨h49, rfl, rfl⟩
            refine vc_nil ?_
            refine vc_then ?_
            refine va_kept hC0 [4] rfl ?_
            clear hC0
            refine tpp 18 ?_
            refine tp 19 rfl (by exact y_fieldE fl_231_0 0 rfl rfl) ?_
            refine va_ready [20] (by kernel_rfl) rfl ?_
            refine vo_cons rfl (fun hC0 => ?_) ?_
            · skip
              refine vc_storeE 4 rfl [_] ⟨h41, h.n, h.c⟩ rfl rfl rfl sz_136 rfl hh (Nat.le_of_ble_eq_true rfl) rfl ?_
              refine vc_nil ?_
              refine vc_then ?_
              refine va_gone hC0 (by kernel_rfl) ?_
              clear hC0
              refine va_ready [21] (by kernel_rfl) rfl ?_
              refine vo_cons rfl (fun hC0 => ?_) ?_
              · skip
                refine vp ?_
                refine vc_nil ?_
                refine vc_then ?_
                refine va_gone hC0 (by kernel_rfl) ?_
                clear hC0
                refine va_ready [22] (by kernel_rfl) rfl ?_
                refine vo_cons rfl (fun hC0 => ?_) ?_
                · skip
                  refine vc_y (y_fieldE fl_231_1 1 rfl rfl) rfl ?_
                  refine vc_nil ?_
                  refine vc_then ?_
                  refine va_gone hC0 (by kernel_rfl) ?_
                  clear hC0
                  refine va_ready [23] (by kernel_rfl) rfl ?_
                  refine vo_cons rfl (fun hC0 => ?_) ?_
                  · skip
                    refine vc_storeE 4 rfl [_] ⟨h41, h49, h.c⟩ rfl rfl rfl sz_72 rfl (List.getElem?_set_self (getLt hh)) (Nat.le_of_ble_eq_true rfl) rfl ?_
                    refine vc_nil ?_
                    refine vc_then ?_
                    refine va_gone hC0 (by kernel_rfl) ?_
                    clear hC0
                    refine va_done (by kernel_rfl) ?_
                    refine vc_then ?_
                    refine vc_ret ?_
                    refine vc_thenRet ?_
                    exact vc_end0 Tryz.results165  _ (ent_at [5, 4, 4, 1, 0, 0, 0] rfl (ent_cons (ent_cons (ent_cons (ent_closeN ⟨h41, h49, h.c⟩ (insL d key n) (List.getElem?_set_self (by rw [List.length_set]; exact getLt hh)) (List.getElem?_set_self (getLt hd)) List.length_set (fun j hj => by rw [List.getElem?_set_ne (Ne.symm hj), List.getElem?_set_ne (Ne.symm hj)]) (fun j hj => by rw [List.getElem?_set_ne (Ne.symm hj)])))))) ⟨hl, hf, _, by simp [hlen], rfl, rfl⟩
                  exact vo_nil
                exact vo_nil
              exact vo_nil
            exact vo_nil
          exact vo_nil
        exact vo_nil
      exact vo_nil
    refine vo_cons rfl (fun hC0 => ?_) ?_
    · skip
      refine vc_buildSlice (E := eInt) [(0, _)] [n] rfl rfl (bs_72_1 _ rfl) rfl (fun h48 => ?_)
      refine vc_nil ?_
      refine vc_then ?_
      refine va_kept hC0 [5] rfl ?_
      clear hC0
      refine va_ready [8] (by kernel_rfl) rfl ?_
      refine vo_cons rfl (fun hC0 => ?_) ?_
      · skip
        refine vc_buildSlice (E := eStr) [(0, _)] [key] rfl rfl (bs_136_1 _ rfl) rfl (fun h40 => ?_)
        refine vc_nil ?_
        refine vc_then ?_
        refine va_kept hC0 [6] rfl ?_
        clear hC0
        refine va_ready [9] (by kernel_rfl) rfl ?_
        refine vo_cons rfl (fun hC0 => ?_) ?_
        · skip
          refine vc_callv ca_193 (us := []) (vs := []) rfl [_, _, _] rfl [2, 0] rfl (insS_spec hlb (by omega)) rfl ?_
          rintro _ _ ⟨h41, rfl, rfl⟩
          refine vc_nil ?_
          refine vc_then ?_
          refine va_kept hC0 [5] rfl ?_
          clear hC0
          refine va_ready [17] (by kernel_rfl) rfl ?_
          refine vo_cons rfl (fun hC0 => ?_) ?_
          · skip
            refine vc_callv ca_194 (us := []) (vs := []) rfl [_, _, _] rfl [2, 1] rfl (insI_spec (by omega) (by omega)) rfl ?_
            rintro _ _ ⟨h49, rfl, rfl⟩
            refine vc_nil ?_
            refine vc_then ?_
            refine va_kept hC0 [4] rfl ?_
            clear hC0
            refine tpp 18 ?_
            refine tp 19 rfl (by exact y_fieldE fl_231_0 0 rfl rfl) ?_
            refine va_ready [20] (by kernel_rfl) rfl ?_
            refine vo_cons rfl (fun hC0 => ?_) ?_
            · skip
              refine vc_storeE 4 rfl [_] ⟨h41, h.n, h.c⟩ rfl rfl rfl sz_136 rfl hh (Nat.le_of_ble_eq_true rfl) rfl ?_
              refine vc_nil ?_
              refine vc_then ?_
              refine va_gone hC0 (by kernel_rfl) ?_
              clear hC0
              refine va_ready [21] (by kernel_rfl) rfl ?_
              refine vo_cons rfl (fun hC0 => ?_) ?_
              · skip
                refine vp ?_
                refine vc_nil ?_
                refine vc_then ?_
                refine va_gone hC0 (by kernel_rfl) ?_
                clear hC0
                refine va_ready [22] (by kernel_rfl) rfl ?_
                refine vo_cons rfl (fun hC0 => ?_) ?_
                · skip
                  refine vc_y (y_fieldE fl_231_1 1 rfl rfl) rfl ?_
                  refine vc_nil ?_
                  refine vc_then ?_
                  refine va_gone hC0 (by kernel_rfl) ?_
                  clear hC0
                  refine va_ready [23] (by kernel_rfl) rfl ?_
                  refine vo_cons rfl (fun hC0 => ?_) ?_
                  · skip
                    refine vc_storeE 4 rfl [_] ⟨h41, h49, h.c⟩ rfl rfl rfl sz_72 rfl (List.getElem?_set_self (getLt hh)) (Nat.le_of_ble_eq_true rfl) rfl ?_
                    refine vc_nil ?_
                    refine vc_then ?_
                    refine va_gone hC0 (by kernel_rfl) ?_
                    clear hC0
                    refine va_done (by kernel_rfl) ?_
                    refine vc_then ?_
                    refine vc_ret ?_
                    refine vc_thenRet ?_
                    exact vc_end0 Tryz.results165  _ (ent_at [5, 4, 4, 1, 0, 0, 0] rfl (ent_cons (ent_cons (ent_cons (ent_closeN ⟨h41, h49, h.c⟩ (insL d key n) (List.getElem?_set_self (by rw [List.length_set]; exact getLt hh)) (List.getElem?_set_self (getLt hd)) List.length_set (fun j hj => by rw [List.getElem?_set_ne (Ne.symm hj), List.getElem?_set_ne (Ne.symm hj)]) (fun j hj => by rw [List.getElem?_set_ne (Ne.symm hj)])))))) ⟨hl, hf, _, by simp [hlen], rfl, rfl⟩
                  exact vo_nil
                exact vo_nil
              exact vo_nil
            exact vo_nil
          exact vo_nil
        exact vo_nil
      exact vo_nil
    exact vo_nil
  · skip
    have hk0 : d.kids ≠ [] := by simpa using c22
    obtain ⟨c, dc, l1, fr1, hc, hpc, hdc, hgc1, hcase⟩ := (hcase.resolve_left (fun h0 => hk0 h0.1)).2
    refine vc_skip ?_
    refine vc_then ?_
    refine vc_seq ?_
    refine vc_region ?_
    refine vp ?_
    refine vp ?_
    refine vc_callv ca_169 (us := []) (vs := []) rfl [_, _] rfl [0, 2] rfl ((way_spec (d := d) (k := h.k) (A := seps [Sl eNode hl hs, Nodes hs l]) (Vis.at 0 rfl (Rd.vis1 Sl.vis hh rfl)) (Vis.at 1 rfl (Nodes.visK hh hd)) hgr (by omega) key).many) rfl ?_
    rintro _ _ ⟨rfl, rfl⟩
    refine vp ?_
    refine vc_nil ?_
    refine vc_then ?_
    refine vc_seq ?_
    refine vc_region ?_
    refine vp ?_
    refine vp ?_
    refine vc_y (y_fieldE fl_231_2 2 rfl rfl) rfl ?_
    refine vc_y (y_load1 0 rfl one_72 rfl (Rd.vis1 (Sl.vis) hh rfl)) rfl ?_
    refine vp ?_
    refine vc_y (y_elem 1 rfl (Nodes.visC hh hd) (wayN d key) rfl (getLt hc) sl_72 rfl rfl) rfl ?_
    refine vc_y (y_load1 1 rfl one_3 rfl (Rd.vis1 (Nodes.visC hh hd) hc rfl)) rfl ?_
    refine vp ?_
    refine vc_nil ?_
    refine vc_then ?_
    refine vc_seq ?_
    refine vc_region ?_
    iterate 4 refine vp ?_
    refine vc_callv ca_165 (us := []) (vs := []) rfl [_, _, _, _] rfl [2, 0, 1, 0] rfl (ih c l1 fr1 hpc) rfl ?_
    rintro _ _ ⟨hl1, hf1, hs1, ln1, rfl, rfl⟩
    obtain ⟨hc1, hhc1⟩ := getSome ln1 hdc
    refine vc_see 3 rfl ((Nodes.visK hhc1 hdc).imp fun w r => r.len) (fun ek1 => ?_)
    refine vc_see 3 rfl ((Nodes.visN hhc1 hdc).imp fun w r => r.len) (fun en1 => ?_)
    refine vc_see 3 rfl ((Nodes.visC hhc1 hdc).imp fun w r => r.len) (fun ec1 => ?_)
    refine vc_nil ?_
    refine vc_then ?_
    refine vc_seq ?_
    refine vc_region ?_
    refine vp ?_
    refine vp ?_
    refine vc_y (y_fieldP fl_204_0 0 rfl rfl) rfl ?_
    refine vc_y (y_load1 0 rfl one_202 rfl (Pts.vis rfl)) rfl ?_
    refine vp ?_
    refine vc_y (y_elem 1 rfl (Sl.vis) c rfl (getLt hhc1) sl_202 rfl rfl) rfl ?_
    refine vc_callv ca_166 (us := []) (vs := []) rfl [_] rfl [1] rfl (size_specD (h := hc1) (d := dc) (Rd.vis1 Sl.vis hhc1 rfl) (Rd.vis1 Sl.vis hhc1 rfl) ek1 ec1) rfl ?_
    rintro _ _ ⟨rfl, rfl⟩
    refine vp ?_
    refine vc_nil ?_
    refine vc_then ?_
    first | refine vc_condP rfl (fun c76 => ?_) (fun c76 => ?_) | refine vc_condN rfl (fun c76 => ?_) (fun c76 => ?_) | refine vc_cond rfl (fun c76 => ?_) (fun c76 => ?_)
    · skip
      obtain ⟨k, s, l2, d2, hsp, hd2, hg2, hw1, hw2, rfl⟩ := (hcase.resolve_left (fun h0 => by omega)).2
      obtain ⟨hg2r, hg2k, hg2n, hg2c⟩ := hg2
      refine vc_seq ?_
      refine vc_region ?_
      refine vp ?_
      refine vp ?_
      refine vc_callv ca_167 (us := []) (vs := []) rfl [_, _] rfl [1, 0, 0, 0] rfl (split_spec ln1 hsp) rfl ?_
      rintro _ _ ⟨hl2, hf2, hs2, ln2, rfl, rfl⟩
      obtain ⟨h2, hh2⟩ := getSome ln2 hd2
      refine vc_see 3 rfl ((Nodes.visK hh2 hd2).imp fun w r => r.len) (fun ek2 => ?_)
      refine vc_see 3 rfl ((Nodes.visN hh2 hd2).imp fun w r => r.len) (fun en2 => ?_)
      refine vc_see 3 rfl ((Nodes.visC hh2 hd2).imp fun w r => r.len) (fun ec2 => ?_)
      iterate 5 refine vp ?_
      refine vc_nil ?_
      refine vc_then ?_
      refine vc_seq ?_
      refine vc_region ?_
      refine vp ?_
      refine vp ?_
      refine vc_y (y_fieldP fl_204_0 0 rfl rfl) rfl ?_
      refine vc_y (y_load1 0 rfl one_202 rfl (Pts.vis rfl)) rfl ?_
      refine vp ?_
      refine vc_y (y_elem 1 rfl (Sl.vis) i rfl (getLt hh2) sl_202 rfl rfl) rfl ?_
      refine vp ?_
      refine vc_nil ?_
      refine vc_then ?_
      refine vc_openN 3 rfl hh2 hd2 ?_
      refine vc_draw (by kernel_rfl) _ (some 21) [5] rfl ?_
      refine tpp 0 ?_
      refine tpp 1 ?_
      refine tpp 2 ?_
      refine tpp 3 ?_
      refine tp 4 rfl (by exact y_fieldE fl_231_0 0 rfl rfl) ?_
      refine tk 5 rfl (by exact y_load1 0 rfl one_136 rfl (Rd.vis1 (Sl.vis) hh2 rfl)) ?_
      refine tpp 6 ?_
      refine tpp 7 ?_
      refine tpp 10 ?_
      refine tpp 11 ?_
      refine tp 12 rfl (by exact y_fieldE fl_231_2 2 rfl rfl) ?_
      refine tk 13 rfl (by exact y_load1 0 rfl one_72 rfl (Rd.vis1 (Sl.vis) hh2 rfl)) ?_
      refine tpp 14 ?_
      refine tp 15 rfl (by exact y_arith ((wayN d key + 1 : Nat) : Int) rfl (wrapNadd (by omega))) ?_
      refine tpp 16 ?_
      refine va_ready [8, 17] (by kernel_rfl) rfl ?_
      refine vo_cons rfl (fun hC0 => ?_) ?_
      · skip
        refine vc_buildSlice (E := eStr) [(0, _)] [s] rfl rfl (bs_136_1 _ rfl) rfl (fun h97 => ?_)
        refine vc_nil ?_
        refine vc_then ?_
        refine va_kept hC0 [6] rfl ?_
        clear hC0
        refine va_ready [9, 17] (by kernel_rfl) rfl ?_
        refine vo_cons rfl (fun hC0 => ?_) ?_
        · skip
          refine vc_callv ca_193 (us := []) (vs := []) rfl [_, _, _] rfl [1, 0] rfl (insS_spec hw1 (by omega)) rfl ?_
          rintro _ _ ⟨h98, rfl, rfl⟩
          refine vc_nil ?_
          refine vc_then ?_
          refine va_kept hC0 [5] rfl ?_
          clear hC0
          refine va_ready [17] (by kernel_rfl) rfl ?_
          refine vo_cons rfl (fun hC0 => ?_) ?_
          · skip
            refine vc_buildSlice (E := eNat) [(0, _)] [k] rfl rfl (bs_72_1 _ rfl) rfl (fun h106 => ?_)
            refine vc_nil ?_
            refine vc_then ?_
            refine va_kept hC0 [6] rfl ?_
            clear hC0
            refine va_ready [18] (by kernel_rfl) rfl ?_
            refine vo_cons rfl (fun hC0 => ?_) ?_
            · skip
              refine vc_callv ca_194 (us := []) (vs := []) rfl [_, _, _] rfl [3, 0] rfl (insN_spec hw2 (by omega)) rfl ?_
              rintro _ _ ⟨h107, rfl, rfl⟩
              refine vc_nil ?_
              refine vc_then ?_
              refine va_kept hC0 [5] rfl ?_
              clear hC0
              refine tpp 19 ?_
              refine tp 20 rfl (by exact y_fieldE fl_231_0 0 rfl rfl) ?_
              refine va_ready [21] (by kernel_rfl) rfl ?_
              refine vo_cons rfl (fun hC0 => ?_) ?_
              · skip
                refine vc_storeE 5 rfl [_] ⟨h98, h2.n, h2.c⟩ rfl rfl rfl sz_136 rfl hh2 (Nat.le_of_ble_eq_true rfl) rfl ?_
                refine vc_nil ?_
                refine vc_then ?_
                refine va_gone hC0 (by kernel_rfl) ?_
                clear hC0
                refine va_ready [22] (by kernel_rfl) rfl ?_
                refine vo_cons rfl (fun hC0 => ?_) ?_
                · skip
                  refine vp ?_
                  refine vc_nil ?_
                  refine vc_then ?_
                  refine va_gone hC0 (by kernel_rfl) ?_
                  clear hC0
                  refine va_ready [23] (by kernel_rfl) rfl ?_
                  refine vo_cons rfl (fun hC0 => ?_) ?_
                  · skip
                    refine vc_y (y_fieldE fl_231_2 2 rfl rfl) rfl ?_
                    refine vc_nil ?_
                    refine vc_then ?_
                    refine va_gone hC0 (by kernel_rfl) ?_
                    clear hC0
                    refine va_ready [24] (by kernel_rfl) rfl ?_
                    refine vo_cons rfl (fun hC0 => ?_) ?_
                    · skip
                      refine vc_storeE 5 rfl [_] ⟨h98, h2.n, h107⟩ rfl rfl rfl sz_72 rfl (List.getElem?_set_self (getLt hh2)) (Nat.le_of_ble_eq_true rfl) rfl ?_
                      refine vc_nil ?_
                      refine vc_then ?_
                      refine va_gone hC0 (by kernel_rfl) ?_
                      clear hC0
                      refine va_done (by kernel_rfl) ?_
                      exact vc_end0n Tryz.results165 _ (ent_at [4, 4, 4, 1, 1, 0, 0] rfl (ent_cons (ent_cons (ent_cons (ent_closeN ⟨h98, h2.n, h107⟩ (insK d2 (wayN d key) s k) (List.getElem?_set_self (by rw [List.length_set]; exact getLt hh2)) (List.getElem?_set_self (getLt hd2)) List.length_set (fun j hj => by rw [List.getElem?_set_ne (Ne.symm hj), List.getElem?_set_ne (Ne.symm hj)]) (fun j hj => by rw [List.getElem?_set_ne (Ne.symm hj)])))))) ⟨hl2, hf2, _, by simp [ln2], rfl, rfl⟩
                    exact vo_nil
                  exact vo_nil
                exact vo_nil
              exact vo_nil
            exact vo_nil
          exact vo_nil
        refine vo_cons rfl (fun hC0 => ?_) ?_
        · skip
          refine vc_buildSlice (E := eNat) [(0, _)] [k] rfl rfl (bs_72_1 _ rfl) rfl (fun h106 => ?_)
          refine vc_nil ?_
          refine vc_then ?_
          refine va_kept hC0 [7] rfl ?_
          clear hC0
          refine va_ready [9] (by kernel_rfl) rfl ?_
          refine vo_cons rfl (fun hC0 => ?_) ?_
          · skip
            refine vc_callv ca_193 (us := []) (vs := []) rfl [_, _, _] rfl [2, 1] rfl (insS_spec hw1 (by omega)) rfl ?_
            rintro _ _ ⟨h98, rfl, rfl⟩
            refine vc_nil ?_
            refine vc_then ?_
            refine va_kept hC0 [6] rfl ?_
            clear hC0
            refine va_ready [18] (by kernel_rfl) rfl ?_
            refine vo_cons rfl (fun hC0 => ?_) ?_
            · skip
              refine vc_callv ca_194 (us := []) (vs := []) rfl [_, _, _] rfl [3, 1] rfl (insN_spec hw2 (by omega)) rfl ?_
              rintro _ _ ⟨h107, rfl, rfl⟩
              refine vc_nil ?_
              refine vc_then ?_
              refine va_kept hC0 [5] rfl ?_
              clear hC0
              refine tpp 19 ?_
              refine tp 20 rfl (by exact y_fieldE fl_231_0 0 rfl rfl) ?_
              refine va_ready [21] (by kernel_rfl) rfl ?_
              refine vo_cons rfl (fun hC0 => ?_) ?_
              · skip
                refine vc_storeE 5 rfl [_] ⟨h98, h2.n, h2.c⟩ rfl rfl rfl sz_136 rfl hh2 (Nat.le_of_ble_eq_true rfl) rfl ?_
                refine vc_nil ?_
                refine vc_then ?_
                refine va_gone hC0 (by kernel_rfl) ?_
                clear hC0
                refine va_ready [22] (by kernel_rfl) rfl ?_
                refine vo_cons rfl (fun hC0 => ?_) ?_
                · skip
                  refine vp ?_
                  refine vc_nil ?_
                  refine vc_then ?_
                  refine va_gone hC0 (by kernel_rfl) ?_
                  clear hC0
                  refine va_ready [23] (by kernel_rfl) rfl ?_
                  refine vo_cons rfl (fun hC0 => ?_) ?_
                  · skip
                    refine vc_y (y_fieldE fl_231_2 2 rfl rfl) rfl ?_
                    refine vc_nil ?_
                    refine vc_then ?_
                    refine va_gone hC0 (by kernel_rfl) ?_
                    clear hC0
                    refine va_ready [24] (by kernel_rfl) rfl ?_
                    refine vo_cons rfl (fun hC0 => ?_) ?_
                    · skip
                      refine vc_storeE 5 rfl [_] ⟨h98, h2.n, h107⟩ rfl rfl rfl sz_72 rfl (List.getElem?_set_self (getLt hh2)) (Nat.le_of_ble_eq_true rfl) rfl ?_
                      refine vc_nil ?_
                      refine vc_then ?_
                      refine va_gone hC0 (by kernel_rfl) ?_
                      clear hC0
                      refine va_done (by kernel_rfl) ?_
                      exact vc_end0n Tryz.results165 _ (ent_at [4, 4, 4, 1, 1, 0, 0] rfl (ent_cons (ent_cons (ent_cons (ent_closeN ⟨h98, h2.n, h107⟩ (insK d2 (wayN d key) s k) (List.getElem?_set_self (by rw [List.length_set]; exact getLt hh2)) (List.getElem?_set_self (getLt hd2)) List.length_set (fun j hj => by rw [List.getElem?_set_ne (Ne.symm hj), List.getElem?_set_ne (Ne.symm hj)]) (fun j hj => by rw [List.getElem?_set_ne (Ne.symm hj)])))))) ⟨hl2, hf2, _, by simp [ln2], rfl, rfl⟩
                    exact vo_nil
                  exact vo_nil
                exact vo_nil
              exact vo_nil
            exact vo_nil
          exact vo_nil
        exact vo_nil
      refine vo_cons rfl (fun hC0 => ?_) ?_
      · skip
        refine vc_buildSlice (E := eNat) [(0, _)] [k] rfl rfl (bs_72_1 _ rfl) rfl (fun h106 => ?_)
        refine vc_nil ?_
        refine vc_then ?_
        refine va_kept hC0 [6] rfl ?_
        clear hC0
        refine va_ready [8] (by kernel_rfl) rfl ?_
        refine vo_cons rfl (fun hC0 => ?_) ?_
        · skip
          refine vc_buildSlice (E := eStr) [(0, _)] [s] rfl rfl (bs_136_1 _ rfl) rfl (fun h97 => ?_)
          refine vc_nil ?_
          refine vc_then ?_
          refine va_kept hC0 [7] rfl ?_
          clear hC0
          refine va_ready [9] (by kernel_rfl) rfl ?_
          refine vo_cons rfl (fun hC0 => ?_) ?_
          · skip
            refine vc_callv ca_193 (us := []) (vs := []) rfl [_, _, _] rfl [2, 0] rfl (insS_spec hw1 (by omega)) rfl ?_
            rintro _ _ ⟨h98, rfl, rfl⟩
            refine vc_nil ?_
            refine vc_then ?_
            refine va_kept hC0 [6] rfl ?_
            clear hC0
            refine va_ready [18] (by kernel_rfl) rfl ?_
            refine vo_cons rfl (fun hC0 => ?_) ?_
            · skip
              refine vc_callv ca_194 (us := []) (vs := []) rfl [_, _, _] rfl [3, 1] rfl (insN_spec hw2 (by omega)) rfl ?_
              rintro _ _ ⟨h107, rfl, rfl⟩
              refine vc_nil ?_
              refine vc_then ?_
              refine va_kept hC0 [5] rfl ?_
              clear hC0
              refine tpp 19 ?_
              refine tp 20 rfl (by exact y_fieldE fl_231_0 0 rfl rfl) ?_
              refine va_ready [21] (by kernel_rfl) rfl ?_
              refine vo_cons rfl (fun hC0 => ?_) ?_
              · skip
                refine vc_storeE 5 rfl [_] ⟨h98, h2.n, h2.c⟩ rfl rfl rfl sz_136 rfl hh2 (Nat.le_of_ble_eq_true rfl) rfl ?_
                refine vc_nil ?_
                refine vc_then ?_
                refine va_gone hC0 (by kernel_rfl) ?_
                clear hC0
                refine va_ready [22] (by kernel_rfl) rfl ?_
                refine vo_cons rfl (fun hC0 => ?_) ?_
                · skip
                  refine vp ?_
                  refine vc_nil ?_
                  refine vc_then ?_
                  refine va_gone hC0 (by kernel_rfl) ?_
                  clear hC0
                  refine va_ready [23] (by kernel_rfl) rfl ?_
                  refine vo_cons rfl (fun hC0 => ?_) ?_
                  · skip
                    refine vc_y (y_fieldE fl_231_2 2 rfl rfl) rfl ?_
                    refine vc_nil ?_
                    refine vc_then ?_
                    refine va_gone hC0 (by kernel_rfl) ?_
                    clear hC0
                    refine va_ready [24] (by kernel_rfl) rfl ?_
                    refine vo_cons rfl (fun hC0 => ?_) ?_
                    · skip
                      refine vc_storeE 5 rfl [_] ⟨h98, h2.n, h107⟩ rfl rfl rfl sz_72 rfl (List.getElem?_set_self (getLt hh2)) (Nat.le_of_ble_eq_true rfl) rfl ?_
                      refine vc_nil ?_
                      refine vc_then ?_
                      refine va_gone hC0 (by kernel_rfl) ?_
                      clear hC0
                      refine va_done (by kernel_rfl) ?_
                      exact vc_end0n Tryz.results165 _ (ent_at [4, 4, 4, 1, 1, 0, 0] rfl (ent_cons (ent_cons (ent_cons (ent_closeN ⟨h98, h2.n, h107⟩ (insK d2 (wayN d key) s k) (List.getElem?_set_self (by rw [List.length_set]; exact getLt hh2)) (List.getElem?_set_self (getLt hd2)) List.length_set (fun j hj => by rw [List.getElem?_set_ne (Ne.symm hj), List.getElem?_set_ne (Ne.symm hj)]) (fun j hj => by rw [List.getElem?_set_ne (Ne.symm hj)])))))) ⟨hl2, hf2, _, by simp [ln2], rfl, rfl⟩
                    exact vo_nil
                  exact vo_nil
                exact vo_nil
              exact vo_nil
            exact vo_nil
          exact vo_nil
        exact vo_nil
      exact vo_nil
    · skip
      obtain ⟨_, rfl, rfl⟩ := hcase.resolve_right (fun h0 => by omega)
      refine vc_skip ?_
      exact vc_end0n Tryz.results165 _ (ent_pick [1, 0, 0, 0] rfl) ⟨hl1, hf1, hs1, ln1, rfl, rfl⟩
theorem put_spec {b : Nat} {l : List Nd} {fr : List Nat} {r : Option Nat} {m : Int} {hl hf : SH} {hs : List Nd3} (hlen : hs.length = l.length) (key : ByteArray) (n : Int) : ∀ (f i : Nat) (l' : List Nd) (fr' : List Nat), PutR key n f l fr i l' fr' → Does Tryz.prog 165 [.pointer (some ⟨b, 0, none⟩), .int .i64 (i : Int), .string key, .int .i64 n] (TO b ⟨l, fr, r, m⟩ hl hf hs) (fun v l2 => ∃ hl' hf' hs', hs'.length = l'.length ∧ v = .tuple #[] ∧ l2 = TO b ⟨l', fr', r, m⟩ hl' hf' hs')
  | 0, _, _, _, h => by obtain ⟨_, _, h0, _⟩ := h.inv; omega
  | f + 1, i, l', fr', h => put_step hlen key n h (fun c l1 fr1 h1 => put_spec hlen key n f c l1 fr1 h1)
end Go.Proofs.YtcpbibdbahfgaaaGreat
