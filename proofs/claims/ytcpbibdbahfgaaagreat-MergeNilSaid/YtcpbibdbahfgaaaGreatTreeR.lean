/-
 What a tree's nodes stand for: a list of keys and numbers that rises. In plain terms of lists.
-/
import Derived.Test.YtcpbibdbahfgaaaGreatSrt
import Derived.Test.YtcpbibdbahfgaaaGreatTreeQ
set_option linter.unusedVariables false
set_option autoImplicit false
namespace Go.Proofs.YtcpbibdbahfgaaaGreat
open Go.Eng
abbrev Con := List (ByteArray × Int)
structure Kid where
 i : Nat
 m : Con
 fp : List Nat
def allM (cs : List Kid) : Con := cs.flatMap Kid.m
def allF (cs : List Kid) : List Nat := cs.flatMap Kid.fp
/-- The keys between kids. -/
def Seps : List ByteArray → List Kid → Prop
 | [], [_] => True
 | k :: q, c :: c' :: cs => (∀ x ∈ ks c.m, sLt x k = true) ∧ (∀ x ∈ ks (allM (c' :: cs)), sLt x k = false) ∧ Seps q (c' :: cs)
 | _, _ => False
/-- The node i, with all below it, stands for m; fp: the nodes' places; z: its size. -/
def Rep : Nat → List Nd → Nat → Con → List Nat → Nat → Prop
 | 0, l, i, m, fp, z => ∃ d, l[i]? = some d ∧ d.kids = [] ∧ d.nums.length = d.keys.length ∧ m = d.keys.zip d.nums ∧ fp = [i] ∧ z = d.keys.length
 | h + 1, l, i, m, fp, z => ∃ d cs, l[i]? = some d ∧ d.kids = cs.map Kid.i ∧ d.nums = [] ∧ m = allM cs ∧ fp = i :: allF cs ∧ z = cs.length ∧ Seps d.keys cs ∧ ∀ c ∈ cs, ∃ y, 2 ≤ y ∧ y ≤ 4 ∧ Rep h l c.i c.m c.fp y
theorem Rep.frame {l l' : List Nd} : ∀ {h i : Nat} {m : Con} {fp : List Nat} {z : Nat}, Rep h l i m fp z → (∀ j ∈ fp, l'[j]? = l[j]?) → Rep h l' i m fp z
 | 0, i, m, fp, z, ⟨d, h1, h2, h3, h4, h5, h6⟩, hf => ⟨d, by rw [hf i (by rw [h5]; simp)]; exact h1, h2, h3, h4, h5, h6⟩
 | h + 1, i, m, fp, z, ⟨d, cs, h1, h2, h3, h4, h5, h6, h7, h8⟩, hf => ⟨d, cs, by rw [hf i (by rw [h5]; simp)]; exact h1, h2, h3, h4, h5, h6, h7, fun c hc => by
   obtain ⟨y, y1, y2, y3⟩ := h8 c hc
   exact ⟨y, y1, y2, y3.frame fun j hj => hf j (by rw [h5]; exact List.mem_cons_of_mem _ (List.mem_flatMap.2 ⟨c, hc, hj⟩))⟩⟩
theorem Rep.top {l : List Nd} {h i : Nat} {m : Con} {fp : List Nat} {z : Nat} (r : Rep h l i m fp z) : i ∈ fp := by
 cases h with
 | zero => obtain ⟨d, h1, h2, h3, h4, h5, h6⟩ := r; rw [h5]; simp
 | succ h => obtain ⟨d, cs, h1, h2, h3, h4, h5, h6⟩ := r; rw [h5]; simp
theorem Seps.len : ∀ {q : List ByteArray} {cs : List Kid}, Seps q cs → cs.length = q.length + 1
 | [], [_], _ => rfl
 | k :: q, c :: c' :: cs, h => by
  have := Seps.len h.2.2
  simp only [List.length_cons] at this ⊢; omega
theorem Rep.size {l : List Nd} {h i : Nat} {m : Con} {fp : List Nat} {z : Nat} (r : Rep h l i m fp z) : ∃ d, l[i]? = some d ∧ sizeN d = z := by
 cases h with
 | zero => obtain ⟨d, h1, h2, h3, h4, h5, h6⟩ := r; exact ⟨d, h1, by simp [sizeN, leafN, h2, h6]⟩
 | succ h =>
  obtain ⟨d, cs, h1, h2, h3, h4, h5, h6, h7, h8⟩ := r
  refine ⟨d, h1, ?_⟩
  have := h7.len
  have hne : d.kids.length = cs.length := by rw [h2]; simp
  unfold sizeN leafN
  cases hk : d.kids with
  | nil => rw [hk] at hne; simp at hne; omega
  | cons a q => rw [← hk]; simp [hk] at *; omega
theorem Rep.ne {l : List Nd} : ∀ {h i : Nat} {m : Con} {fp : List Nat} {z : Nat}, Rep h l i m fp z → 1 ≤ z → m ≠ []
 | 0, i, m, fp, z, ⟨d, h1, h2, h3, h4, h5, h6⟩, hz => by
  intro hm
  have : m.length = d.keys.length := by rw [h4]; simp [h3]
  rw [hm] at this; simp at this; omega
 | h + 1, i, m, fp, z, ⟨d, cs, h1, h2, h3, h4, h5, h6, h7, h8⟩, hz => by
  cases cs with
  | nil => simp at h6; omega
  | cons c cs =>
   obtain ⟨y, y1, y2, y3⟩ := h8 c (by simp)
   intro hm
   rw [h4] at hm
   simp [allM] at hm
   exact y3.ne (by omega) hm.1
def way (q : List ByteArray) (key : ByteArray) : Nat := if fnd q key then lb q key + 1 else lb q key
theorem wayN_eq (d : Nd) (key : ByteArray) : wayN d key = way d.keys key := rfl
theorem le_lt {a b c : ByteArray} (h : sLt b a = false) (h' : sLt a c = false) (hb : sLt c b = false) : sLt c a = false := by
 cases hq : sLt c a with
 | false => rfl
 | true =>
  rcases not_sLt h with e | e
  ·subst e; rw [hq] at hb; cases hb
  ·rw [sLt_trans hq e] at hb; cases hb
theorem lt_le {a b c : ByteArray} (h : sLt a b = true) (h' : sLt c b = false) : sLt a c = true := by
 rcases not_sLt h' with e | e
 ·subst e; exact h
 ·exact sLt_trans h e
theorem le_lt' {a b c : ByteArray} (h : sLt b a = false) (h' : sLt b c = true) : sLt a c = true := by
 rcases not_sLt h with e | e
 ·subst e; exact h'
 ·exact sLt_trans e h'
theorem way_lt {k key : ByteArray} {q : List ByteArray} (h : sLt key k = true) : way (k :: q) key = 0 := by
 have h0 := sLt_asymm h
 have hne : sEq k key = false := sEq_false.2 fun e => sLt_ne h e.symm
 simp [way, fnd, lb, h0, hne]
theorem way_ge {k key : ByteArray} {q : List ByteArray} (hr : Rise (k :: q)) (h : sLt key k = false) : way (k :: q) key = way q key + 1 := by
 rcases not_sLt h with e | e
 ·subst e
  have hz : lb q key = 0 := lb_zero fun x hx => sLt_asymm (hr.1 x hx)
  have hf : fnd q key = false := by
   cases hq : fnd q key with
   | false => rfl
   | true => have := hr.1 key ((fnd_iff hr.2).1 hq); rw [sLt_irrefl] at this; cases this
  simp [way, fnd, lb, sLt_irrefl, sEq_self] at hf hz ⊢
  simp [hz] at hf ⊢
  simp [hf]
 ·have h1 : lb (k :: q) key = lb q key + 1 := by simp [lb, e]
  have h2 : fnd (k :: q) key = fnd q key := by simp [fnd, h1]
  unfold way
  rw [h1, h2]
  cases fnd q key <;> simp
theorem way_split {key : ByteArray} : ∀ {q : List ByteArray} {cs : List Kid}, Seps q cs → Rise q → ∃ A c B, cs = A ++ c :: B ∧ A.length = way q key ∧ (∀ x ∈ ks (allM A), sLt x key = true) ∧ (∀ x ∈ ks (allM B), sLt key x = true)
 | [], [c], _, _ => ⟨[], c, [], rfl, rfl, by simp [allM, ks], by simp [allM, ks]⟩
 | k :: q, c :: c' :: cs, h, hr => by
  cases hk : sLt key k with
  | true => exact ⟨[], c, c' :: cs, rfl, (way_lt hk).symm, by simp [allM, ks], fun x hx => lt_le hk (h.2.1 x hx)⟩
  | false =>
   obtain ⟨A, c0, B, e1, e2, e3, e4⟩ := way_split (key := key) h.2.2 hr.2
   refine ⟨c :: A, c0, B, by rw [e1]; rfl, by rw [way_ge hr hk, ← e2]; rfl, fun x hx => ?_, e4⟩
   simp only [allM, List.flatMap_cons, ks_append, List.mem_append] at hx
   rcases hx with hx | hx
   ·exact lt_le (h.1 x hx) hk
   ·exact e3 x hx
theorem Seps.rise : ∀ {q : List ByteArray} {cs : List Kid}, Seps q cs → (∀ c ∈ cs, c.m ≠ []) → Rise q
 | [], [c], _, _ => trivial
 | k :: q, c :: c' :: cs, h, hne => by
  have ih := Seps.rise h.2.2 (fun c hc => hne c (List.mem_cons_of_mem _ hc))
  refine ⟨fun b hb => ?_, ih⟩
  cases q with
  | nil => cases hb
  | cons k' q' =>
   have hk' : sLt k k' = true := by
    cases cs with
    | nil => exact h.2.2.elim
    | cons c2 cs2 =>
     obtain ⟨x, hx⟩ := List.exists_mem_of_ne_nil _ (hne c' (by simp))
     have hx' : x.1 ∈ ks c'.m := List.mem_map.2 ⟨x, hx, rfl⟩
     have h1 := h.2.1 x.1 (by simp only [allM, List.flatMap_cons, ks_append, List.mem_append]; exact .inl hx')
     exact le_lt' h1 (h.2.2.1 x.1 hx')
   rcases List.mem_cons.1 hb with rfl | hb
   ·exact hk'
   ·exact sLt_trans hk' (ih.1 b hb)
theorem allM_split {A B : List Kid} {c : Kid} : allM (A ++ c :: B) = allM A ++ (c.m ++ allM B) := by simp [allM]
theorem rise_sub {A M B : Con} (h : Rise (ks (A ++ (M ++ B)))) : Rise (ks M) := by
 rw [ks_append, ks_append] at h
 exact (rise_append.1 (rise_append.1 h).2.1).1
/-- The leaf where a key stands or would. -/
theorem Rep.dsc {l : List Nd} {key : ByteArray} : ∀ {h i : Nat} {m : Con} {fp : List Nat} {z : Nat}, Rep h l i m fp z → Rise (ks m) →
  ∃ jl d A B, Proofs.YtcpbibdbahfgaaaGreat.dsc (h + 1) l i key = some jl ∧ l[jl]? = some d ∧ d.kids = [] ∧ d.nums.length = d.keys.length ∧ m = A ++ (d.keys.zip d.nums ++ B) ∧ (∀ x ∈ ks A, sLt x key = true) ∧ (∀ x ∈ ks B, sLt key x = true)
 | 0, i, m, fp, z, ⟨d, h1, h2, h3, h4, h5, h6⟩, hr => ⟨i, d, [], [], by simp [Proofs.YtcpbibdbahfgaaaGreat.dsc, h1, h2], h1, h2, h3, by simp [h4], by simp [ks], by simp [ks]⟩
 | h + 1, i, m, fp, z, ⟨d, cs, h1, h2, h3, h4, h5, h6, h7, h8⟩, hr => by
  obtain ⟨A, c, B, e1, e2, e3, e4⟩ := way_split (key := key) h7 (h7.rise fun c hc => by obtain ⟨y, y1, y2, y3⟩ := h8 c hc; exact y3.ne (by omega))
  obtain ⟨y, y1, y2, y3⟩ := h8 c (by rw [e1]; simp)
  rw [h4, e1, allM_split] at hr
  obtain ⟨jl, d', A', B', f1, f2, f3, f4, f5, f6, f7⟩ := y3.dsc (key := key) (rise_sub hr)
  have hk : d.kids[wayN d key]? = some c.i := by
   rw [h2, wayN_eq, ← e2, e1]; simp
  have hne : d.kids ≠ [] := fun h0 => by rw [h0] at hk; simp at hk
  refine ⟨jl, d', allM A ++ A', B' ++ allM B, ?_, f2, f3, f4, by rw [h4, e1, allM_split, f5]; simp, ?_, ?_⟩
  ·show (match l[i]? with | none => none | some d => if d.kids = [] then some i else match d.kids[wayN d key]? with | none => none | some c => Proofs.YtcpbibdbahfgaaaGreat.dsc (h + 1) l c key) = _
   rw [h1]; simp only [hne, if_false, hk]; exact f1
  ·intro x hx
   rw [ks_append, List.mem_append] at hx
   exact hx.elim (e3 x) (f6 x)
  ·intro x hx
   rw [ks_append, List.mem_append] at hx
   exact hx.elim (f7 x) (e4 x)
/-- The first below a node. -/
theorem Rep.edg {l : List Nd} : ∀ {h i : Nat} {m : Con} {fp : List Nat} {z : Nat}, Rep h l i m fp z → 1 ≤ z → ∃ q, Proofs.YtcpbibdbahfgaaaGreat.edg (h + 1) l i = some q ∧ m[0]? = some q
 | 0, i, m, fp, z, ⟨d, h1, h2, h3, h4, h5, h6⟩, hz => by
  have hk : d.keys[0]? = some d.keys[0] := List.getElem?_eq_getElem (by omega)
  have hn : d.nums[0]? = some d.nums[0] := List.getElem?_eq_getElem (by omega)
  refine ⟨(d.keys[0], d.nums[0]), by simp [Proofs.YtcpbibdbahfgaaaGreat.edg, h1, h2, hk, hn], ?_⟩
  rw [h4, List.getElem?_eq_getElem (by simp; omega)]; simp
 | h + 1, i, m, fp, z, ⟨d, cs, h1, h2, h3, h4, h5, h6, h7, h8⟩, hz => by
  cases cs with
  | nil => simp at h6; omega
  | cons c cs =>
   obtain ⟨y, y1, y2, y3⟩ := h8 c (by simp)
   obtain ⟨q, e1, e2⟩ := y3.edg (by omega)
   have hk : d.kids[0]? = some c.i := by rw [h2]; rfl
   have hne : d.kids ≠ [] := fun h0 => by rw [h0] at hk; simp at hk
   refine ⟨q, ?_, ?_⟩
   ·show (match l[i]? with | none => none | some d => if d.kids = [] then (match d.keys[0]?, d.nums[0]? with | some k, some n => some (k, n) | _, _ => none) else match d.kids[0]? with | none => none | some c => Proofs.YtcpbibdbahfgaaaGreat.edg (h + 1) l c) = _
    rw [h1]; simp only [hne, if_false, hk]; exact e1
   ·rw [h4]
    simp only [allM, List.flatMap_cons]
    rw [List.getElem?_append_left (getLt e2)]; exact e2
theorem nxt_zip {d : Nd} {key : ByteArray} {ab : Bool} (h : d.nums.length = d.keys.length) : nxt (d.keys.zip d.nums) key ab = (d.keys.zip d.nums)[fst1 ab d key]? := by
 unfold nxt fst1
 rw [ks_zip h]
/-- The first that isn't below a key, or is above it. -/
theorem Rep.fst {l : List Nd} {key : ByteArray} {ab : Bool} : ∀ {h i : Nat} {m : Con} {fp : List Nat} {z : Nat}, Rep h l i m fp z → Rise (ks m) → fstN (h + 1) l i key ab = some (nxt m key ab)
 | 0, i, m, fp, z, ⟨d, h1, h2, h3, h4, h5, h6⟩, hr => by
  rw [h4, nxt_zip h3]
  simp only [fstN, h1, h2, if_true]
  by_cases hl : d.keys.length ≤ fst1 ab d key
  ·rw [if_pos hl, List.getElem?_eq_none (by simp; omega)]
  ·rw [if_neg hl, List.getElem?_eq_getElem (l := d.keys) (by omega), List.getElem?_eq_getElem (l := d.nums) (by omega), List.getElem?_eq_getElem (by simp; omega)]
   simp
 | h + 1, i, m, fp, z, ⟨d, cs, h1, h2, h3, h4, h5, h6, h7, h8⟩, hr => by
  obtain ⟨A, c, B, e1, e2, e3, e4⟩ := way_split (key := key) h7 (h7.rise fun c hc => by obtain ⟨y, y1, y2, y3⟩ := h8 c hc; exact y3.ne (by omega))
  obtain ⟨y, y1, y2, y3⟩ := h8 c (by rw [e1]; simp)
  rw [h4, e1, allM_split] at hr ⊢
  have ih := y3.fst (key := key) (ab := ab) (rise_sub hr)
  have hk : d.kids[wayN d key]? = some c.i := by rw [h2, wayN_eq, ← e2, e1]; simp
  have hne : d.kids ≠ [] := fun h0 => by rw [h0] at hk; simp at hk
  rw [nxt_mid e3 e4]
  show (match l[i]? with
   | none => none
   | some d =>
    if d.kids = [] then
     if d.keys.length ≤ fst1 ab d key then some none
     else match d.keys[fst1 ab d key]?, d.nums[fst1 ab d key]? with
      | some k, some n => some (some (k, n))
      | _, _ => none
    else match d.kids[wayN d key]? with
     | none => none
     | some c => match fstN (h + 1) l c key ab with
      | none => none
      | some (some r) => some (some r)
      | some none => match d.kids[wayN d key + 1]? with
       | none => some none
       | some c' => (Proofs.YtcpbibdbahfgaaaGreat.edg (h + 1) l c').map some) = _
  rw [h1]
  simp only [hne, if_false, hk, ih]
  cases hx : nxt c.m key ab with
  | some q => rfl
  | none =>
   simp only []
   cases B with
   | nil =>
    have : d.kids[wayN d key + 1]? = none := by rw [h2, wayN_eq, ← e2, e1]; simp
    rw [this]; simp [allM]
   | cons c2 B =>
    have : d.kids[wayN d key + 1]? = some c2.i := by
     rw [h2, wayN_eq, ← e2, e1, List.map_append, List.getElem?_append_right (by simp)]; simp
    obtain ⟨y', y1', y2', y3'⟩ := h8 c2 (by rw [e1]; simp)
    obtain ⟨q, f1, f2⟩ := y3'.edg (by omega)
    rw [this]
    simp only [f1, Option.map_some]
    simp only [allM, List.flatMap_cons]
    rw [List.getElem?_append_left (getLt f2), f2]
theorem count_kids {cs : List Kid} (h : ∀ c ∈ cs, c.fp.length + 1 ≤ 2 * c.m.length) : (allF cs).length + cs.length ≤ 2 * (allM cs).length := by
 induction cs with
 | nil => simp [allF, allM]
 | cons c cs ih =>
  have h1 := h c (by simp)
  have h2 := ih (fun c hc => h c (by simp [hc]))
  simp only [allF, allM, List.flatMap_cons, List.length_append, List.length_cons] at h2 ⊢
  omega
/-- How many nodes there are at most, and how high they stand. -/
theorem Rep.count {l : List Nd} : ∀ {h i : Nat} {m : Con} {fp : List Nat} {z : Nat}, Rep h l i m fp z → (1 ≤ z ∧ (h = 0 ∨ 2 ≤ z)) → fp.length + 1 ≤ 2 * m.length ∧ h < m.length
 | 0, i, m, fp, z, ⟨d, h1, h2, h3, h4, h5, h6⟩, hz => by
  have : m.length = d.keys.length := by rw [h4]; simp [h3]
  rw [h5]; simp only [List.length_singleton]; omega
 | h + 1, i, m, fp, z, ⟨d, cs, h1, h2, h3, h4, h5, h6, h7, h8⟩, hz => by
  have hc : ∀ c ∈ cs, c.fp.length + 1 ≤ 2 * c.m.length ∧ h < c.m.length := fun c hc => by
   obtain ⟨y, y1, y2, y3⟩ := h8 c hc
   exact y3.count ⟨by omega, .inr y1⟩
  have hk := count_kids (fun c hx => (hc c hx).1)
  rw [h5, h4]
  simp only [List.length_cons]
  refine ⟨by omega, ?_⟩
  match cs, hc, h6, hz with
  | [], _, h6, hz => simp at h6; omega
  | [_], _, h6, hz => simp at h6; omega
  | c :: c' :: q, hc, _, _ =>
   have h1 := (hc c (by simp)).2
   have h2 := (hc c' (by simp)).2
   simp only [allM, List.flatMap_cons, List.length_append]
   omega
/-- A place for one node more. -/
theorem add_ex (l : List Nd) (fr : List Nat) (x : Nd) (hfr : ∀ j ∈ fr, j < l.length) (hl : l.length ≤ 1000000) (hf : fr.length ≤ 1000000) : ∃ k l' fr', AddR l fr x k l' fr' ∧ l'[k]? = some x ∧ k < l'.length ∧ l.length ≤ l'.length ∧ l'.length ≤ l.length + 1 ∧
  (∀ j, j ≠ k → j < l.length → l'[j]? = l[j]?) ∧ ((fr = fr' ++ [k] ∧ l'.length = l.length) ∨ (fr = [] ∧ fr' = [] ∧ k = l.length ∧ l'.length = l.length + 1)) := by
 rcases List.eq_nil_or_concat fr with h | ⟨fr0, i, h⟩
 ·subst h
  exact ⟨l.length, l ++ [x], [], .new rfl hl, by simp, by simp, by simp, by simp, fun j _ hj => List.getElem?_append_left hj, .inr ⟨rfl, rfl, rfl, by simp⟩⟩
 ·subst h
  have hi : i < l.length := hfr i (by simp)
  exact ⟨i, l.set i x, fr0, .old fr0 i (by simp) hi hf, List.getElem?_set_self hi, by simpa using hi, by simp, by simp, fun j hj _ => List.getElem?_set_ne (Ne.symm hj), .inl ⟨by simp, by simp⟩⟩
theorem ge_trans {x s k : ByteArray} (h : sLt x s = false) (h' : sLt s k = false) : sLt x k = false := by
 cases hq : sLt x k with
 | false => rfl
 | true =>
  rcases not_sLt h with e | e
  ·subst e; rw [hq] at h'; cases h'
  ·rw [sLt_trans e hq] at h'; cases h'
theorem allM_append {A B : List Kid} : allM (A ++ B) = allM A ++ allM B := by simp [allM]
theorem allM_cons {c : Kid} {B : List Kid} : allM (c :: B) = c.m ++ allM B := by simp [allM]
theorem allF_append {A B : List Kid} : allF (A ++ B) = allF A ++ allF B := by simp [allF]
theorem allF_cons {c : Kid} {B : List Kid} : allF (c :: B) = c.fp ++ allF B := by simp [allF]
/-- Kids parted. -/
theorem Seps.parts : ∀ {A B : List Kid} {q : List ByteArray}, A ≠ [] → B ≠ [] → Seps q (A ++ B) → Rise q → ∃ q1 s q2, q = q1 ++ s :: q2 ∧ Seps q1 A ∧ Seps q2 B ∧ (∀ x ∈ ks (allM A), sLt x s = true) ∧ (∀ x ∈ ks (allM B), sLt x s = false)
 | [], _, _, h, _, _, _ => absurd rfl h
 | [c], [], _, _, h, _, _ => absurd rfl h
 | [c], c' :: B, [], _, _, h, _ => h.elim
 | [c], c' :: B, k :: q, _, _, h, hr => ⟨[], k, q, rfl, trivial, h.2.2, by simpa [allM] using h.1, h.2.1⟩
 | c :: c2 :: A, B, [], _, _, h, _ => h.elim
 | c :: c2 :: A, B, k :: q, _, hB, h, hr => by
  obtain ⟨q1, s, q2, e1, e2, e3, e4, e5⟩ := Seps.parts (A := c2 :: A) (by simp) hB h.2.2 hr.2
  have hks : sLt k s = true := hr.1 s (by rw [e1]; simp)
  refine ⟨k :: q1, s, q2, by rw [e1]; rfl, ⟨h.1, fun x hx => ?_, e2⟩, e3, fun x hx => ?_, e5⟩
  ·refine h.2.1 x ?_
   show x ∈ ks (allM ((c2 :: A) ++ B))
   rw [allM_append, ks_append]
   exact List.mem_append_left _ hx
  ·rw [allM_cons, ks_append, List.mem_append] at hx
   exact hx.elim (fun hx => sLt_trans (h.1 x hx) hks) (e4 x)
/-- Kids put side by side. -/
theorem Seps.join : ∀ {A B : List Kid} {q1 q2 : List ByteArray} {s : ByteArray}, Seps q1 A → Seps q2 B → B ≠ [] → (∀ c ∈ A, c.m ≠ []) → (∀ x ∈ ks (allM A), sLt x s = true) → (∀ x ∈ ks (allM B), sLt x s = false) → Seps (q1 ++ s :: q2) (A ++ B)
 | [], _, [], _, _, h1, _, _, _, _, _ => h1.elim
 | [], _, _ :: _, _, _, h1, _, _, _, _, _ => h1.elim
 | [c], c' :: B, [], q2, s, _, h2, _, _, h3, h4 => ⟨by simpa [allM] using h3, h4, h2⟩
 | [c], [], [], q2, s, _, h2, hB, _, h3, h4 => absurd rfl hB
 | c :: c2 :: A, B, k :: q1, q2, s, h1, h2, hB, hne, h3, h4 => by
  have ih := Seps.join (A := c2 :: A) h1.2.2 h2 hB (fun c hc => hne c (List.mem_cons_of_mem _ hc)) (fun x hx => h3 x (by rw [allM_cons, ks_append]; exact List.mem_append_right _ hx)) h4
  refine ⟨h1.1, fun x hx => ?_, ih⟩
  replace hx : x ∈ ks (allM ((c2 :: A) ++ B)) := hx
  rw [allM_append, ks_append, List.mem_append] at hx
  rcases hx with hx | hx
  ·exact h1.2.1 x hx
  ·obtain ⟨y, hy⟩ := List.exists_mem_of_ne_nil _ (hne c2 (by simp))
   have hy' : y.1 ∈ ks (allM (c2 :: A)) := by rw [allM_cons, ks_append]; exact List.mem_append_left _ (List.mem_map.2 ⟨y, hy, rfl⟩)
   have hys := h3 y.1 (by rw [allM_cons, ks_append]; exact List.mem_append_right _ hy')
   exact ge_trans (h4 x hx) (sLt_asymm (le_lt' (h1.2.1 y.1 hy') hys))
theorem Rep.good {l : List Nd} {h i : Nat} {m : Con} {fp : List Nat} {z : Nat} (r : Rep h l i m fp z) (hr : Rise (ks m)) (hz : z ≤ 900) : ∃ d, l[i]? = some d ∧ sizeN d = z ∧ Good d := by
 cases h with
 | zero =>
  obtain ⟨d, h1, h2, h3, h4, h5, h6⟩ := r
  have hk : Rise d.keys := by rw [h4, ks_zip h3] at hr; exact hr
  exact ⟨d, h1, by simp [sizeN, leafN, h2, h6], hk, by omega, by omega, by rw [h2]; simp⟩
 | succ h =>
  obtain ⟨d', e1, e2⟩ := Rep.size r
  obtain ⟨d, cs, h1, h2, h3, h4, h5, h6, h7, h8⟩ := r
  rw [h1] at e1; obtain rfl := Option.some.inj e1
  have hl := h7.len
  exact ⟨d, h1, e2, h7.rise fun c hc => by (obtain ⟨y, y1, y2, y3⟩ := h8 c hc; exact y3.ne (by omega)), by omega, by rw [h3]; simp, by rw [h2]; simp; omega⟩
end Go.Proofs.YtcpbibdbahfgaaaGreat
