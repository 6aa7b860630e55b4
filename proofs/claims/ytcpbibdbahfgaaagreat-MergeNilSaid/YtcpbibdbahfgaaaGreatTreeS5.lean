/-
  Two kids side by side that are mended, in plain terms of lists.
-/
import Derived.Test.YtcpbibdbahfgaaaGreatTreeS4
set_option linter.unusedVariables false
set_option autoImplicit false
namespace Go.Proofs.YtcpbibdbahfgaaaGreat
open Go.Eng
/-- Of two kids side by side one. -/
theorem seps_join {a b c : Kid} {B : List Kid} (hm : c.m = a.m ++ b.m) (hb : b.m ≠ []) : ∀ {A : List Kid} {q : List ByteArray}, Seps q (A ++ a :: b :: B) →
    ∃ s, q[A.length]? = some s ∧ (∀ x ∈ ks a.m, sLt x s = true) ∧ (∀ x ∈ ks b.m, sLt x s = false) ∧ Seps (q.take A.length ++ q.drop (A.length + 1)) (A ++ c :: B)
  | [], q, h => by
    cases q with
    | nil => exact absurd h (seps_nil (by simp))
    | cons s q =>
      rw [List.nil_append, seps_cons (by simp)] at h
      refine ⟨s, rfl, h.1, fun x hx => h.2.1 x (by rw [allM_cons, ks_append]; exact List.mem_append_left _ hx), ?_⟩
      rw [List.length_nil, List.take_zero, Nat.zero_add, List.drop_succ_cons, List.drop_zero, List.nil_append, List.nil_append]
      cases B with
      | nil =>
        cases q with
        | nil => trivial
        | cons k q => exact absurd h.2.2 seps_one
      | cons b2 B =>
        cases q with
        | nil => exact absurd h.2.2 (seps_nil (by simp))
        | cons k q =>
          have h2 := (seps_cons (by simp)).1 h.2.2
          rw [seps_cons (by simp)]
          refine ⟨fun x hx => ?_, h2.2⟩
          rw [hm, ks_append, List.mem_append] at hx
          rcases hx with hx | hx
          · obtain ⟨y, hy⟩ := List.exists_mem_of_ne_nil _ hb
            have hy' : y.1 ∈ ks b.m := List.mem_map.2 ⟨y, hy, rfl⟩
            have h3 := h.2.1 y.1 (by rw [allM_cons, ks_append]; exact List.mem_append_left _ hy')
            exact sLt_trans (lt_le (h.1 x hx) h3) (h2.1 _ hy')
          · exact h2.1 x hx
  | a0 :: A, q, h => by
    cases q with
    | nil => exact absurd h (seps_nil (by simp))
    | cons k q =>
      rw [List.cons_append, seps_cons (by simp)] at h
      obtain ⟨s, e1, e2, e3, e4⟩ := seps_join (c := c) hm hb h.2.2
      refine ⟨s, by simpa using e1, e2, e3, ?_⟩
      rw [List.length_cons, List.take_succ_cons, List.drop_succ_cons, List.cons_append, List.cons_append, seps_cons (by simp)]
      refine ⟨h.1, fun x hx => h.2.1 x ?_, e4⟩
      rw [allM_append, allM_cons, hm, ks_append, ks_append, ks_append] at hx
      rw [allM_append, allM_cons, allM_cons, ks_append, ks_append, ks_append]
      simp only [List.mem_append] at hx ⊢
      rcases hx with hx | (hx | hx) | hx
      · exact .inl hx
      · exact .inr (.inl hx)
      · exact .inr (.inr (.inl hx))
      · exact .inr (.inr (.inr hx))
theorem Rep.shape {l : List Nd} {h i : Nat} {m : Con} {fp : List Nat} {z : Nat} (r : Rep h l i m fp z) (hz : 1 ≤ z) {d : Nd} (hd : l[i]? = some d) :
    (h = 0 → d.kids = [] ∧ d.nums.length = d.keys.length) ∧ (h ≠ 0 → d.kids ≠ [] ∧ d.kids.length = d.keys.length + 1) := by
  cases h with
  | zero =>
    obtain ⟨d', h1, h2, h3, h4, h5, h6⟩ := r
    rw [hd] at h1; obtain rfl := Option.some.inj h1
    exact ⟨fun _ => ⟨h2, h3⟩, fun h => absurd rfl h⟩
  | succ h =>
    obtain ⟨d', cs, h1, h2, h3, h4, h5, h6, h7, h8⟩ := r
    rw [hd] at h1; obtain rfl := Option.some.inj h1
    refine ⟨fun h => by omega, fun _ => ⟨fun h0 => ?_, by rw [h2]; simp [h7.len]⟩⟩
    rw [h2] at h0
    have : cs.length = 0 := by simpa using congrArg List.length h0
    omega
theorem Rep.fpHead {l : List Nd} {h i : Nat} {m : Con} {fp : List Nat} {z : Nat} (r : Rep h l i m fp z) : fp = i :: fp.tail := by
  cases h with
  | zero => obtain ⟨d, h1, h2, h3, h4, h5, h6⟩ := r; rw [h5]; rfl
  | succ h => obtain ⟨d, cs, h1, h2, h3, h4, h5, h6⟩ := r; rw [h5]; rfl
theorem join_pair {h : Nat} {l l' : List Nd} {ai bi : Nat} {am bm : Con} {fa fb : List Nat} {ya yb : Nat} {s : ByteArray} {da db : Nd} (ra : Rep h l ai am fa ya) (rb : Rep h l bi bm fb yb) (ha : 1 ≤ ya) (hb : 1 ≤ yb) (hda : l[ai]? = some da) (hdb : l[bi]? = some db)
    (la : ∀ x ∈ ks am, sLt x s = true) (gb : ∀ x ∈ ks bm, sLt x s = false) (hl : l'[ai]? = some (joinA da db s)) (ho : ∀ j ∈ fa ++ fb, j ≠ ai → j ≠ bi → l'[j]? = l[j]?) (hnd : (fa ++ fb).Nodup) :
    Rep h l' ai (am ++ bm) (fa ++ fb.tail) (ya + yb) := by
  cases h with
  | zero =>
    obtain ⟨d1, h1, h2, h3, h4, h5, h6⟩ := ra
    obtain ⟨d2, k1, k2, k3, k4, k5, k6⟩ := rb
    rw [hda] at h1; obtain rfl := Option.some.inj h1
    rw [hdb] at k1; obtain rfl := Option.some.inj k1
    refine ⟨_, hl, by simp [joinA, h2, k2], by simp [joinA, h2, h3, k3], ?_, by rw [h5, k5]; rfl, by simp [joinA, h2, h6, k6]⟩
    simp only [joinA, h2, if_true]
    rw [List.zip_append h3.symm, h4, k4]
  | succ h =>
    obtain ⟨d1, c1, h1, h2, h3, h4, h5, h6, h7, h8⟩ := ra
    obtain ⟨d2, c2, k1, k2, k3, k4, k5, k6, k7, k8⟩ := rb
    rw [hda] at h1; obtain rfl := Option.some.inj h1
    rw [hdb] at k1; obtain rfl := Option.some.inj k1
    have hne : da.kids ≠ [] := fun h0 => by rw [h2] at h0; have : c1.length = 0 := by simpa using congrArg List.length h0
                                            omega
    have hc2 : c2 ≠ [] := fun h0 => by rw [h0] at k6; simp at k6; omega
    subst h5 k5
    have hdis : ∀ j ∈ allF c1 ++ allF c2, j ≠ ai ∧ j ≠ bi := by
      intro j hj
      rw [List.nodup_append] at hnd
      obtain ⟨n1, n2, n3⟩ := hnd
      rw [List.nodup_cons] at n1 n2
      rcases List.mem_append.1 hj with hj | hj
      · exact ⟨fun e => n1.1 (e ▸ hj), n3 j (List.mem_cons_of_mem _ hj) bi (by simp)⟩
      · exact ⟨fun e => n3 ai (by simp) j (List.mem_cons_of_mem _ hj) e.symm, fun e => n2.1 (e ▸ hj)⟩
    refine ⟨_, c1 ++ c2, hl, by simp [joinA, h2, k2], by simp [joinA, h3, k3], by rw [h4, k4, allM_append], by rw [allF_append]; rfl, by rw [h6, k6]; simp, ?_, fun c hc => ?_⟩
    · simp only [joinA, hne, if_false, List.append_assoc]
      rw [h4] at la; rw [k4] at gb
      exact Seps.join h7 k7 hc2 (fun c hc => by obtain ⟨y, y1, y2, y3⟩ := h8 c hc; exact y3.ne (by omega)) la gb
    · have key : ∃ y, 2 ≤ y ∧ y ≤ 4 ∧ Rep h l c.i c.m c.fp y := by
        rcases List.mem_append.1 hc with hc | hc
        · exact h8 c hc
        · exact k8 c hc
      obtain ⟨y, y1, y2, y3⟩ := key
      refine ⟨y, y1, y2, y3.frame fun j hj => ?_⟩
      have hj' : j ∈ allF c1 ++ allF c2 := by rw [← allF_append]; exact List.mem_flatMap.2 ⟨c, hc, hj⟩
      refine ho j ?_ (hdis j hj').1 (hdis j hj').2
      rcases List.mem_append.1 hj' with h | h <;> simp [h]
theorem part_pair {h : Nat} {l l' : List Nd} {ai bi : Nat} {am bm : Con} {fa fb : List Nat} {ya yb : Nat} {s : ByteArray} {da db : Nd} (ra : Rep h l ai am fa ya) (rb : Rep h l bi bm fb yb) (ha : 1 ≤ ya) (hb : 1 ≤ yb) (hab : ya + yb = 5) (hda : l[ai]? = some da) (hdb : l[bi]? = some db)
    (la : ∀ x ∈ ks am, sLt x s = true) (gb : ∀ x ∈ ks bm, sLt x s = false) (hr : Rise (ks (am ++ bm))) (hl : l'[ai]? = some (partA da db s)) (hl2 : l'[bi]? = some (partB da db s)) (ho : ∀ j ∈ fa ++ fb, j ≠ ai → j ≠ bi → l'[j]? = l[j]?) (hnd : (fa ++ fb).Nodup) :
    ∃ A B fA fB t, (allK da db s)[partK da db]? = some t ∧ am ++ bm = A ++ B ∧ Rep h l' ai A fA 2 ∧ Rep h l' bi B fB 3 ∧ (fA ++ fB).Perm (fa ++ fb) ∧ (∀ x ∈ ks A, sLt x t = true) ∧ ∀ x ∈ ks B, sLt x t = false := by
  cases h with
  | zero =>
    obtain ⟨d1, h1, h2, h3, h4, h5, h6⟩ := ra
    obtain ⟨d2, k1, k2, k3, k4, k5, k6⟩ := rb
    rw [hda] at h1; obtain rfl := Option.some.inj h1
    rw [hdb] at k1; obtain rfl := Option.some.inj k1
    have hH : partH da db = 2 := by simp [partH, sizeN, leafN, h2, k2]; omega
    have hK : allK da db s = da.keys ++ db.keys := by simp [allK, h2]
    have hA : partA da db s = ⟨(da.keys ++ db.keys).take 2, (da.nums ++ db.nums).take 2, []⟩ := by simp only [partA, h2, if_true, hH, hK]
    have hB : partB da db s = ⟨(da.keys ++ db.keys).drop 2, (da.nums ++ db.nums).drop 2, []⟩ := by simp only [partB, h2, if_true, hH, hK]
    have hk : partK da db = 2 := by simp [partK, h2, hH]
    obtain ⟨K, eK⟩ : ∃ K, K = da.keys ++ db.keys := ⟨_, rfl⟩
    obtain ⟨V, eV⟩ : ∃ V, V = da.nums ++ db.nums := ⟨_, rfl⟩
    have lK : K.length = 5 := by rw [eK]; simp; omega
    have lV : V.length = 5 := by rw [eV]; simp; omega
    have hm : am ++ bm = K.zip V := by rw [eK, eV, List.zip_append h3.symm, h4, k4]
    rw [← eK, ← eV] at hA hB
    rw [← eK] at hK
    rw [hA] at hl; rw [hB] at hl2
    have hrk : Rise K := by rw [hm, ks_zip (by omega)] at hr; exact hr
    have hsp : K.drop 2 = K[2] :: K.drop 3 := List.drop_eq_getElem_cons (by omega)
    have hap := hrk
    rw [← List.take_append_drop 2 K] at hap
    obtain ⟨_, hp2, hp3⟩ := rise_append.1 hap
    subst h5 k5
    refine ⟨(K.take 2).zip (V.take 2), (K.drop 2).zip (V.drop 2), [ai], [bi], K[2], by rw [hK, hk]; exact List.getElem?_eq_getElem (by omega), ?_, ⟨_, hl, rfl, by simp; omega, rfl, rfl, by simp; omega⟩, ⟨_, hl2, rfl, by simp; omega, rfl, rfl, by simp; omega⟩, List.Perm.refl _, ?_, ?_⟩
    · rw [hm, ← List.zip_append (by simp; omega), List.take_append_drop, List.take_append_drop]
    · intro x hx
      rw [ks_zip (by simp; omega)] at hx
      exact hp3 x hx _ (by rw [hsp]; exact List.mem_cons_self)
    · intro x hx
      rw [ks_zip (by simp; omega), hsp] at hx
      rw [hsp] at hp2
      rcases List.mem_cons.1 hx with rfl | hx
      · exact sLt_irrefl _
      · exact sLt_asymm (hp2.1 x hx)
  | succ h =>
    obtain ⟨d1, c1, h1, h2, h3, h4, h5, h6, h7, h8⟩ := ra
    obtain ⟨d2, c2, k1, k2, k3, k4, k5, k6, k7, k8⟩ := rb
    rw [hda] at h1; obtain rfl := Option.some.inj h1
    rw [hdb] at k1; obtain rfl := Option.some.inj k1
    have hne : da.kids ≠ [] := fun h0 => by rw [h2] at h0; have : c1.length = 0 := by simpa using congrArg List.length h0
                                            omega
    have hne2 : db.kids ≠ [] := fun h0 => by rw [k2] at h0; have : c2.length = 0 := by simpa using congrArg List.length h0
                                             omega
    have hc2 : c2 ≠ [] := fun h0 => by rw [h0] at k6; simp at k6; omega
    have hK : allK da db s = da.keys ++ s :: db.keys := by simp [allK, hne]
    rw [h4] at la; rw [k4] at gb
    have hnem : ∀ c ∈ c1 ++ c2, c.m ≠ [] := fun c hc => by
      rcases List.mem_append.1 hc with hc | hc
      · obtain ⟨y, y1, y2, y3⟩ := h8 c hc; exact y3.ne (by omega)
      · obtain ⟨y, y1, y2, y3⟩ := k8 c hc; exact y3.ne (by omega)
    have hsj := Seps.join h7 k7 hc2 (fun c hc => hnem c (List.mem_append_left _ hc)) la gb
    obtain ⟨cs, ecs⟩ : ∃ cs, cs = c1 ++ c2 := ⟨_, rfl⟩
    rw [← ecs] at hsj hnem
    have hcs : cs = cs.take 2 ++ cs.drop 2 := (List.take_append_drop 2 cs).symm
    obtain ⟨A, eA⟩ : ∃ A, A = cs.take 2 := ⟨_, rfl⟩
    obtain ⟨B, eB⟩ : ∃ B, B = cs.drop 2 := ⟨_, rfl⟩
    have lcs : cs.length = 5 := by rw [ecs]; simp; omega
    have lA : A.length = 2 := by rw [eA]; simp; omega
    have lB : B.length = 3 := by rw [eB]; simp; omega
    rw [← eA, ← eB] at hcs
    obtain ⟨q1, t, q2, e1, e2, e3, e4, e5⟩ := Seps.parts (A := A) (B := B) (fun h0 => by rw [h0] at lA; simp at lA) (fun h0 => by rw [h0] at lB; simp at lB) (hcs ▸ hsj) (hsj.rise hnem)
    have lq := e2.len
    have hq1 : q1.length = 1 := by omega
    have hdk : (da.kids ++ db.kids) = cs.map Kid.i := by rw [h2, k2, ecs]; simp
    have hH : partH da db = 2 := by
      have z1 : sizeN da = ya := by unfold sizeN leafN; rw [h2]; cases c1 with
        | nil => simp at h6; omega
        | cons a q => simp [h6]
      have z2 : sizeN db = yb := by unfold sizeN leafN; rw [k2]; cases c2 with
        | nil => simp at k6; omega
        | cons a q => simp [k6]
      simp only [partH, z1, z2]; omega
    have hA : partA da db s = ⟨q1, [], A.map Kid.i⟩ := by
      simp only [partA, hne, if_false, hH, hK]
      rw [e1, hdk, eA, List.take_left' (by omega), List.map_take]
    have hB : partB da db s = ⟨q2, [], B.map Kid.i⟩ := by
      simp only [partB, hne, if_false, hH, hK]
      rw [e1, hdk, eB, show q1 ++ t :: q2 = (q1 ++ [t]) ++ q2 by simp, List.drop_left' (by simp; omega), List.map_drop]
    have hk : partK da db = 1 := by simp [partK, hne, hH]
    rw [hA] at hl; rw [hB] at hl2
    subst h5 k5
    have hdis : ∀ j ∈ allF cs, j ≠ ai ∧ j ≠ bi := by
      intro j hj
      rw [ecs, allF_append] at hj
      rw [List.nodup_append] at hnd
      obtain ⟨n1, n2, n3⟩ := hnd
      rw [List.nodup_cons] at n1 n2
      rcases List.mem_append.1 hj with hj | hj
      · exact ⟨fun e => n1.1 (e ▸ hj), n3 j (List.mem_cons_of_mem _ hj) bi (by simp)⟩
      · exact ⟨fun e => n3 ai (by simp) j (List.mem_cons_of_mem _ hj) e.symm, fun e => n2.1 (e ▸ hj)⟩
    have hkid : ∀ c ∈ cs, ∃ y, 2 ≤ y ∧ y ≤ 4 ∧ Rep h l' c.i c.m c.fp y := fun c hc => by
      have key : ∃ y, 2 ≤ y ∧ y ≤ 4 ∧ Rep h l c.i c.m c.fp y := by
        rw [ecs] at hc
        rcases List.mem_append.1 hc with hc | hc
        · exact h8 c hc
        · exact k8 c hc
      obtain ⟨y, y1, y2, y3⟩ := key
      refine ⟨y, y1, y2, y3.frame fun j hj => ?_⟩
      have hj' : j ∈ allF cs := List.mem_flatMap.2 ⟨c, hc, hj⟩
      refine ho j ?_ (hdis j hj').1 (hdis j hj').2
      rw [ecs, allF_append] at hj'
      rcases List.mem_append.1 hj' with h | h <;> simp [h]
    have hF : allF A ++ allF B = allF c1 ++ allF c2 := by rw [← allF_append, ← allF_append, ← hcs, ecs]
    refine ⟨allM A, allM B, ai :: allF A, bi :: allF B, t, by rw [hK, hk, e1, List.getElem?_append_right (by omega)]; simp [hq1], by rw [← allM_append, ← hcs, ecs, allM_append, h4, k4], ?_, ?_, ?_, e4, e5⟩
    · exact ⟨_, A, hl, rfl, rfl, rfl, rfl, lA.symm, e2, fun c hc => hkid c (by rw [hcs]; exact List.mem_append_left _ hc)⟩
    · exact ⟨_, B, hl2, rfl, rfl, rfl, rfl, lB.symm, e3, fun c hc => hkid c (by rw [hcs]; exact List.mem_append_right _ hc)⟩
    · have p1 : (ai :: allF A ++ bi :: allF B).Perm (ai :: bi :: (allF A ++ allF B)) := List.Perm.cons _ List.perm_middle
      have p2 : (ai :: allF c1 ++ bi :: allF c2).Perm (ai :: bi :: (allF c1 ++ allF c2)) := List.Perm.cons _ List.perm_middle
      rw [hF] at p1
      exact p1.trans p2.symm
structure MendQ (h : Nat) (l : List Nd) (fr : List Nat) (i w : Nat) (m : Con) (fp : List Nat) (z : Nat) (l' : List Nd) (fr' fp' : List Nat) (z' : Nat) : Prop where
  r : MendR l fr i w l' fr'
  rep : Rep (h + 1) l' i m fp' z'
  zz : z' ≤ z ∧ z ≤ z' + 1
  perm : (fp' ++ fr').Perm (fp ++ fr)
  len : l'.length = l.length
  out : ∀ j, j ∉ fp → l'[j]? = l[j]?
  fre : ∀ j ∈ fr', j ∈ fr ∨ l'[j]? = some nd0
  frl : fr'.length ≤ fr.length + 1
  sub : ∀ j ∈ fp', j ∈ fp
theorem mend_rep {h : Nat} {l : List Nd} {fr : List Nat} {i : Nat} {d : Nd} {A B : List Kid} {a b : Kid} {ya yb : Nat} (hd : l[i]? = some d) (hg : Good d) (hn : d.nums = []) (hk : d.kids = (A ++ a :: b :: B).map Kid.i) (hs : Seps d.keys (A ++ a :: b :: B))
    (ra : Rep h l a.i a.m a.fp ya) (rb : Rep h l b.i b.m b.fp yb) (ha : 1 ≤ ya ∧ ya ≤ 4) (hb : 1 ≤ yb ∧ yb ≤ 4) (hab : 3 ≤ ya + yb ∧ ya + yb ≤ 5) (hrest : ∀ x, x ∈ A ∨ x ∈ B → ∃ y, 2 ≤ y ∧ y ≤ 4 ∧ Rep h l x.i x.m x.fp y)
    (hr : Rise (ks (allM (A ++ a :: b :: B)))) (hnd : (i :: allF (A ++ a :: b :: B)).Nodup) (hfr : fr.length ≤ 1000000) :
    ∃ l' fr' fp' z', MendQ h l fr i (A.length + 1) (allM (A ++ a :: b :: B)) (i :: allF (A ++ a :: b :: B)) (A.length + B.length + 2) l' fr' fp' z' := by
  have hrab : Rise (ks (a.m ++ b.m)) := by
    have : allM (A ++ a :: b :: B) = allM A ++ ((a.m ++ b.m) ++ allM B) := by simp [allM_append, allM_cons]
    rw [this] at hr; exact rise_sub hr
  have hra : Rise (ks a.m) := by rw [ks_append] at hrab; exact (rise_append.1 hrab).1
  have hrb : Rise (ks b.m) := by rw [ks_append] at hrab; exact (rise_append.1 hrab).2.1
  obtain ⟨da, hda, hza, hga⟩ := ra.good hra (by omega)
  obtain ⟨db, hdb, hzb, hgb⟩ := rb.good hrb (by omega)
  obtain ⟨s, e1, e2, e3, e4⟩ := seps_join (c := ⟨a.i, a.m ++ b.m, a.fp ++ b.fp.tail⟩) rfl (rb.ne hb.1) hs
  have hta := ra.top
  have htb := rb.top
  have hfa := ra.fpHead
  have hfb := rb.fpHead
  have hp := fp_perm2 i A B a b []
  rw [List.append_nil, List.append_nil] at hp
  have hnd2 := hp.nodup_iff.1 hnd
  rw [List.nodup_append] at hnd2
  obtain ⟨n1, n2, n3⟩ := hnd2
  have hii : i ∉ allF A ++ allF B := (List.nodup_cons.1 n1).1
  have hia : i ∉ a.fp ++ b.fp := fun hx => n3 i (by simp) i hx rfl
  have hxa : i ≠ a.i := fun e => hia (by rw [e]; simp [hta])
  have hxb : i ≠ b.i := fun e => hia (by rw [e]; simp [htb])
  have hne : a.i ≠ b.i := by rw [List.nodup_append] at n2; exact n2.2.2 _ hta _ htb
  have hM : MendC l i (A.length + 1) d da db a.i b.i s := ⟨hd, hg, by rw [hk]; simp, by rw [hk]; simp, hda, hdb, hga, hgb, by omega, e1, hxa, hxb, hne⟩
  have hil := getLt hd
  have hal := getLt hda
  have hbl := getLt hdb
  have hsl := hs.len
  have hoth : ∀ (l' : List Nd), (∀ j, j ≠ i → j ≠ a.i → j ≠ b.i → l'[j]? = l[j]?) → ∀ x, x ∈ A ∨ x ∈ B → ∃ y, 2 ≤ y ∧ y ≤ 4 ∧ Rep h l' x.i x.m x.fp y := by
    intro l' hl' x hx
    obtain ⟨y, y1, y2, y3⟩ := hrest x hx
    refine ⟨y, y1, y2, y3.frame fun j hj => ?_⟩
    have hj' : j ∈ allF A ++ allF B := by
      rcases hx with hx | hx
      · exact List.mem_append_left _ (List.mem_flatMap.2 ⟨x, hx, hj⟩)
      · exact List.mem_append_right _ (List.mem_flatMap.2 ⟨x, hx, hj⟩)
    exact hl' j (fun e => hii (e ▸ hj')) (n3 j (List.mem_cons_of_mem _ hj') _ (by simp [hta])) (n3 j (List.mem_cons_of_mem _ hj') _ (by simp [htb]))
  have houtm : ∀ j, j ∉ i :: allF (A ++ a :: b :: B) → j ≠ i ∧ j ≠ a.i ∧ j ≠ b.i := by
    intro j hj
    have hj2 : j ∉ (i :: (allF A ++ allF B)) ++ (a.fp ++ b.fp) := fun hx => hj (hp.mem_iff.2 hx)
    refine ⟨fun e => hj2 (by simp [e]), fun e => hj2 (by simp [e, hta]), fun e => hj2 (by simp [e, htb])⟩
  by_cases h4 : ya + yb ≤ 4
  · obtain ⟨l', el⟩ : ∃ l', l' = ((l.set a.i (joinA da db s)).set i (joinX d (A.length + 1))).set b.i nd0 := ⟨_, rfl⟩
    have ho : ∀ j, j ≠ i → j ≠ a.i → j ≠ b.i → l'[j]? = l[j]? := fun j j1 j2 j3 => by
      rw [el, List.getElem?_set_ne (Ne.symm j3), List.getElem?_set_ne (Ne.symm j1), List.getElem?_set_ne (Ne.symm j2)]
    have hla : l'[a.i]? = some (joinA da db s) := by
      rw [el, List.getElem?_set_ne (Ne.symm hne), List.getElem?_set_ne hxa, List.getElem?_set_self hal]
    have hli : l'[i]? = some (joinX d (A.length + 1)) := by
      rw [el, List.getElem?_set_ne (Ne.symm hxb), List.getElem?_set_self (by simpa using hil)]
    have hlb : l'[b.i]? = some nd0 := by rw [el, List.getElem?_set_self (by simpa using hbl)]
    have J := join_pair ra rb ha.1 hb.1 hda hdb e2 e3 hla (fun j hj j1 j2 => ho j (fun e => hia (e ▸ hj)) j1 j2) n2
    refine ⟨l', fr ++ [b.i], i :: allF (A ++ ⟨a.i, a.m ++ b.m, a.fp ++ b.fp.tail⟩ :: B), A.length + B.length + 1, ⟨by rw [el]; exact .join d da db a.i b.i s hM (by omega) hfr, ?_, by omega, ?_, by rw [el]; simp, fun j hj => ?_, fun j hj => ?_, by simp, fun j hj => ?_⟩⟩
    · refine ⟨_, A ++ ⟨a.i, a.m ++ b.m, a.fp ++ b.fp.tail⟩ :: B, hli, ?_, hn, ?_, rfl, by simp; omega, ?_, fun x hx => ?_⟩
      · simp only [joinX]
        rw [hk]
        simp [List.take_append, List.drop_append]
        rw [List.take_of_length_le (by simp), List.drop_eq_nil_of_le (by simp; omega), show A.length + 1 + 1 - A.length = 2 by omega]
        rfl
      · simp [allM_append, allM_cons]
      · simp only [joinX]; rw [Nat.add_sub_cancel]; exact e4
      · simp only [List.mem_append, List.mem_cons] at hx
        rcases hx with hx | rfl | hx
        · exact hoth l' ho x (.inl hx)
        · exact ⟨ya + yb, by omega, h4, J⟩
        · exact hoth l' ho x (.inr hx)
    · have p1 := fp_perm i A B ⟨a.i, a.m ++ b.m, a.fp ++ b.fp.tail⟩ (fr ++ [b.i])
      have p2 := fp_perm2 i A B a b fr
      refine p1.trans (List.Perm.trans (List.Perm.append_left _ ?_) p2.symm)
      have p3 : (b.fp.tail ++ (fr ++ [b.i])).Perm (b.fp ++ fr) := by
        conv => rhs; rw [hfb]
        rw [← List.append_assoc]
        exact List.perm_append_comm (l₂ := [b.i])
      simp only [List.append_assoc]
      exact p3.append_left _
    · obtain ⟨j1, j2, j3⟩ := houtm j hj
      exact ho j j1 j2 j3
    · rcases List.mem_append.1 hj with hj | hj
      · exact .inl hj
      · rw [List.mem_singleton] at hj; rw [hj]; exact .inr hlb
    · rw [allF_append, allF_cons] at hj ⊢
      rw [allF_cons]
      simp only [List.mem_cons, List.mem_append] at hj ⊢
      rcases hj with hj | hj | (hj | hj) | hj
      · exact .inl hj
      · exact .inr (.inl hj)
      · exact .inr (.inr (.inl hj))
      · exact .inr (.inr (.inr (.inl (List.mem_of_mem_tail hj))))
      · exact .inr (.inr (.inr (.inr hj)))
  · obtain ⟨l0, el0⟩ : ∃ l0, l0 = (l.set a.i (partA da db s)).set b.i (partB da db s) := ⟨_, rfl⟩
    have ho0 : ∀ j, j ≠ a.i → j ≠ b.i → l0[j]? = l[j]? := fun j j2 j3 => by
      rw [el0, List.getElem?_set_ne (Ne.symm j3), List.getElem?_set_ne (Ne.symm j2)]
    have hla0 : l0[a.i]? = some (partA da db s) := by rw [el0, List.getElem?_set_ne (Ne.symm hne), List.getElem?_set_self hal]
    have hlb0 : l0[b.i]? = some (partB da db s) := by rw [el0, List.getElem?_set_self (by simpa using hbl)]
    obtain ⟨A2, B2, fA, fB, t, f1, f2, f3, f4, f5, f6, f7⟩ := part_pair ra rb ha.1 hb.1 (by omega) hda hdb e2 e3 hrab hla0 hlb0 (fun j hj j1 j2 => ho0 j j1 j2) n2
    obtain ⟨l', el⟩ : ∃ l', l' = l0.set i ⟨d.keys.set A.length t, d.nums, d.kids⟩ := ⟨_, rfl⟩
    have hi0 : ∀ j, j ≠ i → l'[j]? = l0[j]? := fun j hj => by rw [el, List.getElem?_set_ne (Ne.symm hj)]
    have ho : ∀ j, j ≠ i → j ≠ a.i → j ≠ b.i → l'[j]? = l[j]? := fun j j1 j2 j3 => by rw [hi0 j j1, ho0 j j2 j3]
    have hli : l'[i]? = some ⟨d.keys.set A.length t, d.nums, d.kids⟩ := by rw [el, List.getElem?_set_self (by rw [el0]; simpa using hil)]
    have sa := ra.shape ha.1 hda
    have sb := rb.shape hb.1 hdb
    have hiA : ∀ j ∈ fA ++ fB, j ≠ i := fun j hj e => hia (f5.mem_iff.1 (e ▸ hj))
    have hsB : ∀ x ∈ ks (allM B), sLt x t = false := fun x hx => by
      obtain ⟨w, hw⟩ := List.exists_mem_of_ne_nil _ (f4.ne (by omega))
      have hw' : w.1 ∈ ks B2 := List.mem_map.2 ⟨w, hw, rfl⟩
      have h1 := f7 _ hw'
      have h2 : sLt w.1 x = true := by
        have : allM (A ++ a :: b :: B) = allM A ++ ((a.m ++ b.m) ++ allM B) := by simp [allM_append, allM_cons]
        rw [this, f2, ks_append, ks_append] at hr
        exact (rise_append.1 (rise_append.1 hr).2.1).2.2 w.1 (by rw [ks_append]; exact List.mem_append_right _ hw') x hx
      cases hq : sLt x t with
      | false => rfl
      | true => rw [sLt_trans h2 hq] at h1; cases h1
    have hsp := seps_part (c := ⟨a.i, a.m ++ b.m, a.fp ++ b.fp.tail⟩) (cA := ⟨a.i, A2, fA⟩) (cB := ⟨b.i, B2, fB⟩) f2 f6 f7 hsB e4
    have hAl := getLt e1
    refine ⟨l', fr, i :: allF (A ++ ⟨a.i, A2, fA⟩ :: ⟨b.i, B2, fB⟩ :: B), A.length + B.length + 2, ⟨?_, ?_, by omega, ?_, by rw [el, el0]; simp, fun j hj => ?_, fun j hj => .inl hj, by omega, fun j hj => ?_⟩⟩
    · rw [el, el0]
      exact .part d da db a.i b.i s t hM (by omega) f1 (fun h0 => by
        by_cases hh : h = 0
        · exact ⟨(sb.1 hh).1, (sa.1 hh).2, (sb.1 hh).2⟩
        · exact absurd h0 (sa.2 hh).1) (fun h0 => by
        by_cases hh : h = 0
        · exact absurd (sa.1 hh).1 h0
        · exact ⟨(sb.2 hh).1, (sa.2 hh).2, (sb.2 hh).2⟩)
    · refine ⟨_, A ++ ⟨a.i, A2, fA⟩ :: ⟨b.i, B2, fB⟩ :: B, hli, by rw [hk]; simp, hn, ?_, rfl, by simp; omega, ?_, fun x hx => ?_⟩
      · have : a.m ++ (b.m ++ allM B) = A2 ++ (B2 ++ allM B) := by rw [← List.append_assoc, f2, List.append_assoc]
        rw [allM_append, allM_cons, allM_cons, allM_append, allM_cons, allM_cons, this]
      · have : d.keys.set A.length t = (d.keys.take A.length ++ d.keys.drop (A.length + 1)).take A.length ++ t :: (d.keys.take A.length ++ d.keys.drop (A.length + 1)).drop A.length := by
          rw [List.take_left' (by simp; omega), List.drop_left' (by simp; omega), List.set_eq_take_append_cons_drop, if_pos hAl]
        show Seps (d.keys.set A.length t) _
        rw [this]; exact hsp
      · simp only [List.mem_append, List.mem_cons] at hx
        rcases hx with hx | rfl | rfl | hx
        · exact hoth l' ho x (.inl hx)
        · exact ⟨2, by omega, by omega, f3.frame fun j hj => hi0 j (hiA j (by simp [hj]))⟩
        · exact ⟨3, by omega, by omega, f4.frame fun j hj => hi0 j (hiA j (by simp [hj]))⟩
        · exact hoth l' ho x (.inr hx)
    · have p1 := fp_perm2 i A B ⟨a.i, A2, fA⟩ ⟨b.i, B2, fB⟩ fr
      have p2 := fp_perm2 i A B a b fr
      exact p1.trans (((f5.append_right fr).append_left _).trans p2.symm)
    · obtain ⟨j1, j2, j3⟩ := houtm j hj
      exact ho j j1 j2 j3
    · have p1 := fp_perm2 i A B ⟨a.i, A2, fA⟩ ⟨b.i, B2, fB⟩ []
      have p2 := fp_perm2 i A B a b []
      simp only [List.append_nil] at p1 p2
      exact (p1.trans ((f5.append_left _).trans p2.symm)).mem_iff.1 hj
end Go.Proofs.YtcpbibdbahfgaaaGreat
