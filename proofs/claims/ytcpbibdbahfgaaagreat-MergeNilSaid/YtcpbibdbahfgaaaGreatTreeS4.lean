/-
 A key that is put below a node, in plain terms of lists.
-/
import Derived.Test.YtcpbibdbahfgaaaGreatTreeS3
set_option linter.unusedVariables false
set_option autoImplicit false
namespace Go.Proofs.YtcpbibdbahfgaaaGreat
open Go.Eng
theorem seps_cons {k : ByteArray} {q : List ByteArray} {c : Kid} {cs : List Kid} (h : cs ≠ []) : Seps (k :: q) (c :: cs) ↔ (∀ x ∈ ks c.m, sLt x k = true) ∧ (∀ x ∈ ks (allM cs), sLt x k = false) ∧ Seps q cs := by
 cases cs with
 | nil => exact absurd rfl h
 | cons c' cs => exact Iff.rfl
theorem seps_nil {c : Kid} {cs : List Kid} (h : cs ≠ []) : ¬ Seps [] (c :: cs) := by
 cases cs with
 | nil => exact absurd rfl h
 | cons c' cs => exact id
theorem seps_one {k : ByteArray} {q : List ByteArray} {c : Kid} : ¬ Seps (k :: q) [c] := id
/-- A kid in the place of another one, below the key's way. -/
theorem way_seps {key : ByteArray} {c c' : Kid} {B : List Kid} (hc : ∀ x ∈ ks c'.m, x = key ∨ x ∈ ks c.m) : ∀ {A : List Kid} {q : List ByteArray}, Seps q (A ++ c :: B) → Rise q → A.length = way q key → Seps q (A ++ c' :: B)
 | [], q, h, hr, hl => by
  rw [List.nil_append] at h ⊢
  cases B with
  | nil =>
   cases q with
   | nil => trivial
   | cons k q => exact absurd h seps_one
  | cons b B =>
   cases q with
   | nil => exact absurd h (seps_nil (by simp))
   | cons k q =>
    rw [seps_cons (by simp)] at h ⊢
    refine ⟨fun x hx => ?_, h.2⟩
    rcases hc x hx with rfl | hx
    ·cases hk : sLt x k with
     | true => rfl
     | false => rw [way_ge hr hk] at hl; simp at hl
    ·exact h.1 x hx
 | a :: A, q, h, hr, hl => by
  cases q with
  | nil => exact absurd h (seps_nil (by simp))
  | cons k q =>
   rw [List.cons_append, seps_cons (by simp)] at h ⊢
   have hk : sLt key k = false := by
    cases hk : sLt key k with
    | false => rfl
    | true => rw [way_lt hk] at hl; simp at hl
   rw [way_ge hr hk] at hl
   refine ⟨h.1, fun x hx => ?_, way_seps hc h.2.2 hr.2 (by simpa using hl)⟩
   have old := h.2.1
   rw [allM_append, allM_cons, ks_append, ks_append] at hx old
   simp only [List.mem_append] at hx old
   rcases hx with hx | hx | hx
   ·exact old x (.inl hx)
   ·rcases hc x hx with rfl | hx
    ·exact hk
    ·exact old x (.inr (.inl hx))
   ·exact old x (.inr (.inr hx))
/-- A kid that is two. -/
theorem seps_part {c cA cB : Kid} {B : List Kid} {s : ByteArray} (hm : c.m = cA.m ++ cB.m) (hA : ∀ x ∈ ks cA.m, sLt x s = true) (hB : ∀ x ∈ ks cB.m, sLt x s = false) (hB2 : ∀ x ∈ ks (allM B), sLt x s = false) :
  ∀ {A : List Kid} {q : List ByteArray}, Seps q (A ++ c :: B) → Seps (q.take A.length ++ s :: q.drop A.length) (A ++ cA :: cB :: B)
 | [], q, h => by
  rw [List.nil_append] at h ⊢
  rw [List.length_nil, List.take_zero, List.drop_zero, List.nil_append, seps_cons (by simp)]
  refine ⟨hA, fun x hx => ?_, ?_⟩
  ·rw [allM_cons, ks_append, List.mem_append] at hx
   exact hx.elim (hB x) (hB2 x)
  ·cases B with
   | nil =>
    cases q with
    | nil => trivial
    | cons k q => exact absurd h seps_one
   | cons b B =>
    cases q with
    | nil => exact absurd h (seps_nil (by simp))
    | cons k q =>
     rw [seps_cons (by simp)] at h ⊢
     exact ⟨fun x hx => h.1 x (by rw [hm, ks_append]; exact List.mem_append_right _ hx), h.2⟩
 | a :: A, q, h => by
  cases q with
  | nil => exact absurd h (seps_nil (by simp))
  | cons k q =>
   rw [List.cons_append, seps_cons (by simp)] at h
   rw [List.length_cons, List.take_succ_cons, List.drop_succ_cons, List.cons_append, List.cons_append, seps_cons (by simp)]
   refine ⟨h.1, fun x hx => h.2.1 x ?_, seps_part hm hA hB hB2 h.2.2⟩
   rw [allM_append, allM_cons, allM_cons, ks_append, ks_append, ks_append] at hx
   rw [allM_append, allM_cons, hm, ks_append, ks_append, ks_append]
   simp only [List.mem_append] at hx ⊢
   rcases hx with hx | hx | hx | hx
   ·exact .inl hx
   ·exact .inr (.inl (.inl hx))
   ·exact .inr (.inl (.inr hx))
   ·exact .inr (.inr hx)
/-- What a permutation with new places tells. -/
theorem perm_nodup {X X' : List Nat} {N N' : Nat} (h : X'.Perm (X ++ List.range' N (N' - N))) (hn : X.Nodup) (hl : ∀ j ∈ X, j < N) : X'.Nodup := by
 refine h.nodup_iff.2 (List.nodup_append.2 ⟨hn, List.nodup_range', fun a ha b hb => ?_⟩)
 have := hl a ha
 have := (List.mem_range'_1.1 hb).1
 omega
theorem perm_lt {X X' : List Nat} {N N' : Nat} (h : X'.Perm (X ++ List.range' N (N' - N))) (hN : N ≤ N') (hl : ∀ j ∈ X, j < N) : ∀ j ∈ X', j < N' := fun j hj => by
 rw [h.mem_iff, List.mem_append, List.mem_range'_1] at hj
 rcases hj with hj | hj
 ·have := hl j hj; omega
 ·omega
theorem perm_old {X X' : List Nat} {N N' : Nat} (h : X'.Perm (X ++ List.range' N (N' - N))) {j : Nat} (hj : j ∈ X') (hN : j < N) : j ∈ X := by
 rw [h.mem_iff, List.mem_append, List.mem_range'_1] at hj
 rcases hj with hj | hj
 ·exact hj
 ·omega
theorem range2 {a b c : Nat} (h : a ≤ b) (h' : b ≤ c) : List.range' a (b - a) ++ List.range' b (c - b) = List.range' a (c - a) := by
 have := List.range'_append_1 (s := a) (m := b - a) (n := c - b)
 rw [show a + (b - a) = b by omega, show b - a + (c - b) = c - a by omega] at this
 exact this
theorem perm_mid {P X Y X' Y' R : List Nat} (h : (X' ++ Y').Perm (X ++ Y ++ R)) : (P ++ (X' ++ Y')).Perm (P ++ (X ++ Y) ++ R) := by
 rw [List.append_assoc]; exact h.append_left P
theorem fp_perm (i : Nat) (A B : List Kid) (c : Kid) (fr : List Nat) : (i :: allF (A ++ c :: B) ++ fr).Perm ((i :: (allF A ++ allF B)) ++ (c.fp ++ fr)) := by
 rw [allF_append, allF_cons]
 simp only [List.cons_append, List.append_assoc]
 exact List.Perm.cons _ (List.Perm.append_left _ (List.perm_append_comm_assoc _ _ _))
theorem fp_perm2 (i : Nat) (A B : List Kid) (c c' : Kid) (fr : List Nat) : (i :: allF (A ++ c :: c' :: B) ++ fr).Perm ((i :: (allF A ++ allF B)) ++ (c.fp ++ c'.fp ++ fr)) := by
 rw [allF_append, allF_cons, allF_cons]
 simp only [List.cons_append, List.append_assoc]
 refine List.Perm.cons _ (List.Perm.append_left _ ?_)
 rw [← List.append_assoc, ← List.append_assoc c.fp]
 exact List.perm_append_comm_assoc _ _ _
/-- What a put below a node comes to. -/
structure PutQ (h : Nat) (l : List Nd) (fr : List Nat) (i : Nat) (m : Con) (fp : List Nat) (z : Nat) (key : ByteArray) (n : Int) (l' : List Nd) (fr' fp' : List Nat) (z' : Nat) : Prop where
 r : PutR key n (h + 1) l fr i l' fr'
 rep : Rep h l' i (ins m key n) fp' z'
 zz : z ≤ z' ∧ z' ≤ z + 1
 perm : (fp' ++ fr').Perm (fp ++ fr ++ List.range' l.length (l'.length - l.length))
 len : l.length ≤ l'.length ∧ l'.length ≤ l.length + h
 out : ∀ j, j < l.length → j ∉ fp → j ∉ fr → l'[j]? = l[j]?
 fre : ∀ j ∈ fr', j ∈ fr ∧ l'[j]? = l[j]?
 frl : fr'.length ≤ fr.length
 new : l.length < l'.length → fr' = []
theorem put_leaf {key : ByteArray} {n : Int} {l : List Nd} {i : Nat} {m : Con} {fp fr : List Nat} {z : Nat} (r : Rep 0 l i m fp z) (hz : z ≤ 4) (hr : Rise (ks m)) (hnd : (fp ++ fr).Nodup) :
  ∃ l' fr' fp' z', PutQ 0 l fr i m fp z key n l' fr' fp' z' := by
 obtain ⟨d, g1, g2, g3⟩ := r.good hr (by omega)
 obtain ⟨d', h1, h2, h3, h4, h5, h6⟩ := r
 rw [g1] at h1; obtain rfl := Option.some.inj h1
 have hi := getLt g1
 subst h5
 have hlb := lb_le d.keys key
 refine ⟨_, fr, [i], z + 1, ⟨.leaf d g1 g3 h2 h3, ⟨insL d key n, List.getElem?_set_self hi, h2, ?_, ?_, rfl, ?_⟩, by omega, ?_, by simp, ?_, ?_, Nat.le_refl _, by simp⟩⟩
 ·simp [insL, h3]
 ·rw [h4, ins_zip h3]; rfl
 ·simp [insL, h6]; omega
 ·simp
 ·intro j hj h1 h2
  exact List.getElem?_set_ne (fun e => h1 (by simp [e]))
 ·intro j hj
  rw [List.nodup_append] at hnd
  exact ⟨hj, List.getElem?_set_ne (hnd.2.2 i (by simp) j hj)⟩
theorem put_rep {key : ByteArray} {n : Int} : ∀ {h : Nat} {l : List Nd} {i : Nat} {m : Con} {fp fr : List Nat} {z : Nat}, Rep h l i m fp z → z ≤ 4 → Rise (ks m) → key ∉ ks m → (fp ++ fr).Nodup → (∀ j ∈ fp ++ fr, j < l.length) → l.length + h ≤ 1000000 → fr.length ≤ 1000000 →
  ∃ l' fr' fp' z', PutQ h l fr i m fp z key n l' fr' fp' z'
 | 0, l, i, m, fp, fr, z, r, hz, hr, hk, hnd, hlt, hl, hfr => put_leaf r hz hr hnd
 | h + 1, l, i, m, fp, fr, z, r, hz, hr, hk, hnd, hlt, hl, hfr => by
  obtain ⟨d, g1, g2, g3⟩ := r.good hr (by omega)
  obtain ⟨d', cs, h1, h2, h3, h4, h5, h6, h7, h8⟩ := r
  rw [g1] at h1; obtain rfl := Option.some.inj h1
  have hi := getLt g1
  have hsl := h7.len
  have hq := g3.rise
  obtain ⟨A, c, B, e1, e2, e3, e4⟩ := way_split (key := key) h7 hq
  obtain ⟨y, y1, y2, y3⟩ := h8 c (by rw [e1]; simp)
  have hm : m = allM A ++ (c.m ++ allM B) := by rw [h4, e1, allM_split]
  have hrc : Rise (ks c.m) := by rw [hm] at hr; exact rise_sub hr
  have hkc : key ∉ ks c.m := fun hx => hk (by rw [hm, ks_append, ks_append]; simp [hx])
  have hP := fp_perm i A B c fr
  rw [← e1, ← h5] at hP
  have hnd' := hP.nodup_iff.1 hnd
  have hlt' : ∀ j ∈ (i :: (allF A ++ allF B)) ++ (c.fp ++ fr), j < l.length := fun j hj => hlt j (hP.mem_iff.2 hj)
  rw [List.nodup_append] at hnd'
  obtain ⟨n1, n2, n3⟩ := hnd'
  have hX : ∀ j ∈ c.fp ++ fr, j < l.length := fun j hj => hlt' j (List.mem_append_right _ hj)
  have hPl : ∀ j ∈ i :: (allF A ++ allF B), j < l.length := fun j hj => hlt' j (List.mem_append_left _ hj)
  obtain ⟨l1, fr1, fp1, y', Q⟩ := put_rep (key := key) (n := n) y3 y2 hrc hkc n2 hX (by omega) hfr
  have old1 : ∀ j ∈ i :: (allF A ++ allF B), l1[j]? = l[j]? := fun j hj => Q.out j (hPl j hj) (fun hx => n3 j hj j (List.mem_append_left _ hx) rfl) (fun hx => n3 j hj j (List.mem_append_right _ hx) rfl)
  have hi1 : l1[i]? = some d := by rw [old1 i (by simp)]; exact g1
  have hins : ins m key n = allM A ++ (ins c.m key n ++ allM B) := by rw [hm]; exact ins_mid e3 (fun x hx => sLt_asymm (e4 x hx))
  have hri : Rise (ks (ins m key n)) := rise_ins hr hk
  have hrci : Rise (ks (ins c.m key n)) := rise_ins hrc hkc
  have hkw : d.kids[wayN d key]? = some c.i := by rw [h2, wayN_eq, ← e2, e1]; simp
  have hne : d.kids ≠ [] := fun h0 => by rw [h0] at hkw; simp at hkw
  obtain ⟨dc, hdc, hsz, hgc⟩ := Q.rep.good hrci (by have := Q.zz; omega)
  have hseps := way_seps (key := key) (c := c) (c' := ⟨c.i, ins c.m key n, fp1⟩) (B := B) (fun x hx => mem_ins.1 hx) (A := A) (e1 ▸ h7) hq e2
  have hlenA : A.length ≤ d.keys.length := by rw [e1, List.length_append, List.length_cons] at hsl; omega
  have hkid : ∀ l2 : List Nd, (∀ j ∈ allF A ++ allF B, l2[j]? = l[j]?) → ∀ x, x ∈ A ∨ x ∈ B → ∃ y, 2 ≤ y ∧ y ≤ 4 ∧ Rep h l2 x.i x.m x.fp y := by
   intro l2 hl2 x hx
   obtain ⟨y, w1, w2, w3⟩ := h8 x (by rw [e1]; rcases hx with hx | hx <;> simp [hx])
   refine ⟨y, w1, w2, w3.frame fun j hj => hl2 j ?_⟩
   rcases hx with hx | hx
   ·exact List.mem_append_left _ (List.mem_flatMap.2 ⟨x, hx, hj⟩)
   ·exact List.mem_append_right _ (List.mem_flatMap.2 ⟨x, hx, hj⟩)
  by_cases hy : y' ≤ 4
  ·have hP1 := fp_perm i A B ⟨c.i, ins c.m key n, fp1⟩ fr1
   refine ⟨l1, fr1, i :: allF (A ++ ⟨c.i, ins c.m key n, fp1⟩ :: B), z, ⟨.deep d dc c.i g1 g3 hne hkw Q.r hdc hgc (by omega), ?_, by omega, ?_, by have := Q.len; omega, ?_, Q.fre, Q.frl, Q.new⟩⟩
   ·refine ⟨d, A ++ ⟨c.i, ins c.m key n, fp1⟩ :: B, hi1, by rw [h2, e1]; simp, h3, by rw [hins, allM_split], rfl, by rw [h6, e1]; simp, hseps, fun x hx => ?_⟩
    simp only [List.mem_append, List.mem_cons] at hx
    rcases hx with hx | rfl | hx
    ·exact hkid l1 (fun j hj => old1 j (List.mem_cons_of_mem _ hj)) x (.inl hx)
    ·exact ⟨y', by have := Q.zz; omega, hy, Q.rep⟩
    ·exact hkid l1 (fun j hj => old1 j (List.mem_cons_of_mem _ hj)) x (.inr hx)
   ·exact hP1.trans ((perm_mid Q.perm).trans (hP.symm.append_right _))
   ·intro j hj h1 h2
    rw [h5] at h1
    refine Q.out j hj (fun hx => h1 ?_) h2
    rw [e1, allF_append, allF_cons]; simp [hx]
  ·have hnd1 := perm_nodup Q.perm n2 hX
   have hlt1 := perm_lt Q.perm Q.len.1 hX
   obtain ⟨k, s, l2, fr2, A2, B2, fA, fB, zA, zB, S⟩ := split_rep Q.rep (by omega) (by have := Q.zz; omega) hrci hnd1 hlt1 (by have := Q.len; omega) (by have := Q.frl; omega)
   have hql := Q.len
   have hsl2 := S.len
   have notin : ∀ j ∈ i :: (allF A ++ allF B), j ∉ fp1 ∧ j ∉ fr1 := fun j hj => by
    have hj0 := hPl j hj
    exact ⟨fun hx => n3 j hj j (perm_old Q.perm (List.mem_append_left _ hx) hj0) rfl, fun hx => n3 j hj j (perm_old Q.perm (List.mem_append_right _ hx) hj0) rfl⟩
   have old2 : ∀ j ∈ i :: (allF A ++ allF B), l2[j]? = l[j]? := fun j hj => by
    have hj0 := hPl j hj
    rw [S.out j (by omega) (notin j hj).1 (notin j hj).2]; exact old1 j hj
   have hi2 : l2[i]? = some d := by rw [old2 i (by simp)]; exact g1
   have hil2 := getLt hi2
   have hP2 : ((fA ++ fB) ++ fr2).Perm (c.fp ++ fr ++ List.range' l.length (l2.length - l.length)) := by
    refine S.perm.trans ((Q.perm.append_right _).trans ?_)
    rw [List.append_assoc, range2 hql.1 hsl2.1]
   have hin : ∀ j ∈ fA ++ fB ++ fr2, i ≠ j := fun j hj e => by
    have := perm_old hP2 hj (by rw [← e]; exact hi)
    exact n3 i (by simp) j this e
   have hset : ∀ (x : Nd) (j : Nat), i ≠ j → (l2.set i x)[j]? = l2[j]? := fun x j hj => List.getElem?_set_ne hj
   have hxs : (∀ x ∈ ks (allM B), sLt x s = false) := fun x hx => by
    obtain ⟨w, hw⟩ := List.exists_mem_of_ne_nil _ (S.b.ne (by have := S.zb; omega))
    have hw' : w.1 ∈ ks B2 := List.mem_map.2 ⟨w, hw, rfl⟩
    have h1 := S.gb _ hw'
    have h2 : sLt w.1 x = true := by
     rw [hins, ks_append, ks_append] at hri
     exact (rise_append.1 (rise_append.1 hri).2.1).2.2 w.1 (by rw [S.m, ks_append]; exact List.mem_append_right _ hw') x hx
    cases hq : sLt x s with
    | false => rfl
    | true => rw [sLt_trans h2 hq] at h1; cases h1
   have hsp := seps_part (cA := ⟨c.i, A2, fA⟩) (cB := ⟨k, B2, fB⟩) S.m S.la S.gb hxs hseps
   have hww : wayN d key = A.length := by rw [wayN_eq, e2]
   have hkl : d.kids.length = A.length + 1 + B.length := by rw [h2, e1]; simp; omega
   refine ⟨_, fr2, i :: allF (A ++ ⟨c.i, A2, fA⟩ :: ⟨k, B2, fB⟩ :: B), z + 1, ⟨.split d dc d c.i k s g1 g3 hne hkw Q.r hdc hgc (by omega) S.r hi2 g3 (by omega) (by omega), ?_, by omega, ?_, by simp; omega, ?_, ?_, by have := S.frl; have := Q.frl; omega, ?_⟩⟩
   ·refine ⟨insK d (wayN d key) s k, A ++ ⟨c.i, A2, fA⟩ :: ⟨k, B2, fB⟩ :: B, List.getElem?_set_self hil2, ?_, h3, ?_, rfl, ?_, ?_, fun x hx => ?_⟩
    ·simp only [insK]
     rw [hww, h2, e1, List.map_append, List.map_cons]
     simp [List.take_append, List.drop_append]
     rw [List.take_of_length_le (by simp), List.drop_eq_nil_of_le (by simp)]
     rfl
    ·rw [hins, S.m, allM_append, allM_cons, allM_cons]; simp
    ·rw [h6, e1]; simp; omega
    ·simp only [insK]; rw [hww]; exact hsp
    ·have hk2 := hkid (l2.set i (insK d (wayN d key) s k)) (fun j hj => by
      rw [hset _ j (fun e => by rw [List.nodup_cons] at n1; exact n1.1 (e ▸ hj))]
      exact old2 j (List.mem_cons_of_mem _ hj)) x
     simp only [List.mem_append, List.mem_cons] at hx
     rcases hx with hx | rfl | rfl | hx
     ·exact hk2 (.inl hx)
     ·exact ⟨zA, S.za.1, S.za.2, S.a.frame fun j hj => hset _ j (hin j (by simp [hj]))⟩
     ·exact ⟨zB, S.zb.1, S.zb.2, S.b.frame fun j hj => hset _ j (hin j (by simp [hj]))⟩
     ·exact hk2 (.inr hx)
   ·rw [List.length_set]
    exact (fp_perm2 i A B _ _ fr2).trans ((perm_mid hP2).trans (hP.symm.append_right _))
   ·intro j hj h1 h2
    rw [h5] at h1
    have hji : i ≠ j := fun e => h1 (by simp [e])
    have hjc : j ∉ c.fp := fun hx => h1 (by rw [e1, allF_append, allF_cons]; simp [hx])
    rw [hset _ j hji, S.out j (by omega) (fun hx => ?_) (fun hx => ?_)]
    ·exact Q.out j hj hjc h2
    ·exact (List.mem_append.1 (perm_old Q.perm (List.mem_append_left _ hx) hj)).elim hjc h2
    ·exact (List.mem_append.1 (perm_old Q.perm (List.mem_append_right _ hx) hj)).elim hjc h2
   ·intro j hj
    have hs := S.fre j hj
    have hq := Q.fre j hs.1
    exact ⟨hq.1, by rw [hset _ j (hin j (by simp [hj])), hs.2, hq.2]⟩
   ·intro hx
    rw [List.length_set] at hx
    by_cases h0 : l1.length < l2.length
    ·exact S.new h0
    ·have := Q.new (by omega)
     have h1 := S.frl
     rw [this] at h1
     exact List.length_eq_zero_iff.1 (by simpa using h1)
/-- All nodes below one are as they should be. -/
theorem Rep.all {l : List Nd} : ∀ {h i : Nat} {m : Con} {fp : List Nat} {z : Nat}, Rep h l i m fp z → Rise (ks m) → z ≤ 900 → ∀ j ∈ fp, ∃ d, l[j]? = some d ∧ Good d
 | 0, i, m, fp, z, r, hr, hz, j, hj => by
  obtain ⟨d, g1, g2, g3⟩ := r.good hr hz
  obtain ⟨d', h1, h2, h3, h4, h5, h6⟩ := r
  rw [h5, List.mem_singleton] at hj
  rw [hj]; exact ⟨d, g1, g3⟩
 | h + 1, i, m, fp, z, r, hr, hz, j, hj => by
  obtain ⟨d, g1, g2, g3⟩ := r.good hr hz
  obtain ⟨d', cs, h1, h2, h3, h4, h5, h6, h7, h8⟩ := r
  rw [h5, List.mem_cons] at hj
  rcases hj with hj | hj
  ·rw [hj]; exact ⟨d, g1, g3⟩
  ·obtain ⟨c, hc, hj⟩ := List.mem_flatMap.1 hj
   obtain ⟨y, y1, y2, y3⟩ := h8 c hc
   obtain ⟨A, B, e⟩ := List.append_of_mem hc
   rw [h4, e, allM_split] at hr
   exact y3.all (rise_sub hr) (by omega) j hj
end Go.Proofs.YtcpbibdbahfgaaaGreat
