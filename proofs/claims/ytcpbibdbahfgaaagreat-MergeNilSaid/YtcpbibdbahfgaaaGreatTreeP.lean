/-
 A tree in memory: its nodes in one array, each with three slices of its own; and what its functions come to, on lists.
-/
import Derived.Test.YtcpbibdbahfgaaaGreatBase
set_option linter.unusedVariables false
set_option autoImplicit false
namespace Go.Eng
/-! ### A sum of chunks by numbers -/
def bigs (f : Nat → HP) : Nat → HP
 | 0 => emp
 | n + 1 => sep (f n) (bigs f n)
def upd {α : Type} (f : Nat → α) (i : Nat) (a : α) : Nat → α := fun j => if j = i then a else f j
theorem upd_same {α : Type} (f : Nat → α) (i : Nat) (a : α) : upd f i a i = a := by simp [upd]
theorem upd_ne {α : Type} (f : Nat → α) {i j : Nat} (a : α) (h : j ≠ i) : upd f i a j = f j := by simp [upd, h]
theorem bigs_congr {f g : Nat → HP} {n : Nat} (h : ∀ j, j < n → f j = g j) : bigs f n = bigs g n := by
 induction n with
 | zero => rfl
 | succ n ih => simp only [bigs]; rw [h n (by omega), ih (fun j hj => h j (by omega))]
theorem bigs_out {f : Nat → HP} {n i : Nat} (h : i < n) : Ent (bigs f n) (sep (f i) (bigs (upd f i emp) n)) := by
 induction n with
 | zero => omega
 | succ n ih =>
  by_cases hi : i = n
  ·subst hi
   simp only [bigs, upd_same]
   rw [bigs_congr (g := f) (fun j hj => upd_ne f emp (by omega))]
   exact Ent.sep Ent.rfl Ent.empL
  ·simp only [bigs]
   rw [upd_ne f emp (show n ≠ i from fun e => hi e.symm)]
   exact (Ent.sep Ent.rfl (ih (by omega))).trans Ent.swap
theorem bigs_in {f : Nat → HP} {n i : Nat} (A : HP) (h : i < n) (hf : f i = emp) : Ent (sep A (bigs f n)) (bigs (upd f i A) n) := by
 induction n with
 | zero => omega
 | succ n ih =>
  by_cases hi : i = n
  ·subst hi
   simp only [bigs, upd_same]
   rw [bigs_congr (f := upd f i A) (g := f) (fun j hj => upd_ne f A (by omega))]
   exact Ent.sep Ent.rfl Ent.right
  ·simp only [bigs]
   rw [upd_ne f A (show n ≠ i from fun e => hi e.symm)]
   exact Ent.swap.trans (Ent.sep Ent.rfl (ih (by omega)))
theorem bigs_see {f : Nat → HP} {n i : Nat} (h : i < n) : Ent (bigs f n) (f i) := (bigs_out h).trans Ent.left
end Go.Eng
namespace Go.Proofs.YtcpbibdbahfgaaaGreat
open Go.Eng
def eNat : Enc Nat := ⟨3, 1, fun n => [.int .i64 (n : Int)], fun _ => rfl, fun _ c h => by simp at h; subst h; rfl, by decide⟩
/-- The three slices of a node. -/
structure Nd3 where
 k : SH
 n : SH
 c : SH
def eNode : Enc Nd3 := ⟨231, 3, fun x => [x.k.v, x.n.v, x.c.v], fun _ => rfl, fun _ c h => by simp at h; rcases h with rfl | rfl | rfl <;> rfl, by decide⟩
/-- What a node has. -/
structure Nd where
 keys : List ByteArray
 nums : List Int
 kids : List Nat
structure TS where
 l : List Nd
 free : List Nat
 root : Option Nat
 n : Int
def rootV : Option Nat → Int
 | none => -1
 | some r => (r : Int)
def NodeC (h : Nd3) (d : Nd) : HP := sep (Sl eStr h.k d.keys) (sep (Sl eInt h.n d.nums) (Sl eNat h.c d.kids))
def nodeAt (hs : List Nd3) (ds : List Nd) (i : Nat) : HP := match hs[i]? with
 | some h => match ds[i]? with
  | some d => NodeC h d
  | none => emp
 | none => emp
def Nodes (hs : List Nd3) (ds : List Nd) : HP := bigs (nodeAt hs ds) ds.length
/-- A tree, opened. -/
def TO (b : Nat) (S : TS) (hl hf : SH) (hs : List Nd3) : List HP := [Pts b [hl.v, hf.v, .int .i64 (rootV S.root), .int .i64 S.n] 204, Sl eNode hl hs, Sl eNat hf S.free, Nodes hs S.l]
theorem nodeAt_some {hs : List Nd3} {ds : List Nd} {i : Nat} {h : Nd3} {d : Nd} (e : hs[i]? = some h) (e' : ds[i]? = some d) : nodeAt hs ds i = NodeC h d := by simp [nodeAt, e, e']
section
variable {hs : List Nd3} {ds : List Nd} {i : Nat} {h : Nd3} {d : Nd}
theorem Nodes.see (e : hs[i]? = some h) (e' : ds[i]? = some d) : Ent (Nodes hs ds) (NodeC h d) := by
 have hl := (List.getElem?_eq_some_iff.1 e').1
 have := bigs_see (f := nodeAt hs ds) hl
 rwa [nodeAt_some e e'] at this
theorem Nodes.visK (e : hs[i]? = some h) (e' : ds[i]? = some d) : Vis (Nodes hs ds) (Rd eStr h.k d.keys) := Sl.vis.ent ((Nodes.see e e').trans Ent.left)
theorem Nodes.visN (e : hs[i]? = some h) (e' : ds[i]? = some d) : Vis (Nodes hs ds) (Rd eInt h.n d.nums) := Sl.vis.ent ((Nodes.see e e').trans (Ent.right.trans Ent.left))
theorem Nodes.visC (e : hs[i]? = some h) (e' : ds[i]? = some d) : Vis (Nodes hs ds) (Rd eNat h.c d.kids) := Sl.vis.ent ((Nodes.see e e').trans (Ent.right.trans Ent.right))
end
/-! ### The functions of a tree, on lists -/
def leafN (d : Nd) : Bool := d.kids.isEmpty
def sizeN (d : Nd) : Nat := if leafN d then d.keys.length else d.kids.length
def wayN (d : Nd) (key : ByteArray) : Nat := if fnd d.keys key then lb d.keys key + 1 else lb d.keys key
/-- The leaf below a node, where a key stands or would. -/
def dsc : Nat → List Nd → Nat → ByteArray → Option Nat
 | 0, _, _, _ => none
 | f + 1, l, i, key => match l[i]? with
  | none => none
  | some d => if d.kids = [] then some i else match d.kids[wayN d key]? with
   | none => none
   | some c => dsc f l c key
/-- The first of the leaf that is leftmost below a node. -/
def edg : Nat → List Nd → Nat → Option (ByteArray × Int)
 | 0, _, _ => none
 | f + 1, l, i => match l[i]? with
  | none => none
  | some d => if d.kids = [] then (match d.keys[0]?, d.nums[0]? with | some k, some n => some (k, n) | _, _ => none) else match d.kids[0]? with
   | none => none
   | some c => edg f l c
def fst1 (above : Bool) (d : Nd) (key : ByteArray) : Nat := if fnd d.keys key && above then lb d.keys key + 1 else lb d.keys key
/-- The first key below a node that isn't below one, or is above it: none (out of bounds); none; some. -/
def fstN : Nat → List Nd → Nat → ByteArray → Bool → Option (Option (ByteArray × Int))
 | 0, _, _, _, _ => none
 | f + 1, l, i, key, above => match l[i]? with
  | none => none
  | some d =>
   if d.kids = [] then
    if d.keys.length ≤ fst1 above d key then some none
    else match d.keys[fst1 above d key]?, d.nums[fst1 above d key]? with
     | some k, some n => some (some (k, n))
     | _, _ => none
   else match d.kids[wayN d key]? with
    | none => none
    | some c => match fstN f l c key above with
     | none => none
     | some (some r) => some (some r)
     | some none => match d.kids[wayN d key + 1]? with
      | none => some none
      | some c' => (edg f l c').map some
theorem dsc_some {f : Nat} {l : List Nd} {j jl : Nat} {key : ByteArray} (h : dsc f l j key = some jl) :
  ∃ f' d, f = f' + 1 ∧ l[j]? = some d ∧ ((d.kids = [] ∧ j = jl) ∨ (d.kids ≠ [] ∧ ∃ c, d.kids[wayN d key]? = some c ∧ dsc f' l c key = some jl)) := by
 cases f with
 | zero => simp [dsc] at h
 | succ f =>
  simp only [dsc] at h
  cases hd : l[j]? with
  | none => simp [hd] at h
  | some d =>
   simp only [hd] at h
   refine ⟨f, d, rfl, rfl, ?_⟩
   by_cases hk : d.kids = []
   ·rw [if_pos hk] at h
    exact .inl ⟨hk, Option.some.inj h⟩
   ·rw [if_neg hk] at h
    right
    refine ⟨hk, ?_⟩
    cases hc : d.kids[wayN d key]? with
    | none => simp [hc] at h
    | some c => simp only [hc] at h; exact ⟨c, rfl, h⟩
theorem dsc_lt {f : Nat} {l : List Nd} {j jl : Nat} {key : ByteArray} (h : dsc f l j key = some jl) : j < l.length := by
 obtain ⟨_, _, _, h, _⟩ := dsc_some h
 exact (List.getElem?_eq_some_iff.1 h).1
theorem getSome {α β : Type} {xs : List α} {ys : List β} (hl : xs.length = ys.length) {i : Nat} {y : β} (h : ys[i]? = some y) : ∃ x, xs[i]? = some x :=
 ⟨_, List.getElem?_eq_getElem (by rw [hl]; exact (List.getElem?_eq_some_iff.1 h).1)⟩
theorem getLt {α : Type} {xs : List α} {i : Nat} {x : α} (h : xs[i]? = some x) : i < xs.length := (List.getElem?_eq_some_iff.1 h).1
def resK : Option (ByteArray × Int) → ByteArray
 | none => ⟨#[]⟩
 | some (k, _) => k
def resN : Option (ByteArray × Int) → Int
 | none => 0
 | some (_, n) => n
def resB : Option (ByteArray × Int) → Bool
 | none => false
 | some _ => true
def resV (r : Option (ByteArray × Int)) : Value := .tuple #[.string (resK r), .int .i64 (resN r), .bool (resB r)]
def getN (d : Nd) (key : ByteArray) : Int × Bool := if fnd d.keys key then (d.nums.getD (lb d.keys key) 0, true) else (0, false)
theorem edg_some {f : Nat} {l : List Nd} {j : Nat} {q : ByteArray × Int} (h : edg f l j = some q) :
  ∃ f' d, f = f' + 1 ∧ l[j]? = some d ∧ ((d.kids = [] ∧ d.keys[0]? = some q.1 ∧ d.nums[0]? = some q.2) ∨ (d.kids ≠ [] ∧ ∃ c, d.kids[0]? = some c ∧ edg f' l c = some q)) := by
 cases f with
 | zero => simp [edg] at h
 | succ f =>
  simp only [edg] at h
  cases hd : l[j]? with
  | none => simp [hd] at h
  | some d =>
   simp only [hd] at h
   refine ⟨f, d, rfl, rfl, ?_⟩
   by_cases hk : d.kids = []
   ·rw [if_pos hk] at h
    left
    refine ⟨hk, ?_⟩
    cases h1 : d.keys[0]? <;> cases h2 : d.nums[0]? <;> simp [h1, h2] at h
    subst h; exact ⟨rfl, rfl⟩
   ·rw [if_neg hk] at h
    right
    refine ⟨hk, ?_⟩
    cases hc : d.kids[0]? with
    | none => simp [hc] at h
    | some c => simp only [hc] at h; exact ⟨c, rfl, h⟩
theorem edg_lt {f : Nat} {l : List Nd} {j : Nat} {q : ByteArray × Int} (h : edg f l j = some q) : j < l.length := by
 obtain ⟨_, _, _, h, _⟩ := edg_some h
 exact (List.getElem?_eq_some_iff.1 h).1
theorem fstN_some {f : Nat} {l : List Nd} {i : Nat} {key : ByteArray} {above : Bool} {r : Option (ByteArray × Int)} (h : fstN (f + 1) l i key above = some r) :
  ∃ d, l[i]? = some d ∧ ((d.kids = [] ∧ ((d.keys.length ≤ fst1 above d key ∧ r = none) ∨ (∃ k n, d.keys[fst1 above d key]? = some k ∧ d.nums[fst1 above d key]? = some n ∧ r = some (k, n)))) ∨
   (d.kids ≠ [] ∧ ∃ c r', d.kids[wayN d key]? = some c ∧ fstN f l c key above = some r' ∧ ((∃ q, r' = some q ∧ r = some q) ∨ (r' = none ∧ ((d.kids[wayN d key + 1]? = none ∧ r = none) ∨ ∃ c' q, d.kids[wayN d key + 1]? = some c' ∧ edg f l c' = some q ∧ r = some q))))) := by
 simp only [fstN] at h
 cases hd : l[i]? with
 | none => simp [hd] at h
 | some d =>
  simp only [hd] at h
  refine ⟨d, rfl, ?_⟩
  by_cases hk : d.kids = []
  ·rw [if_pos hk] at h
   left
   refine ⟨hk, ?_⟩
   by_cases hl : d.keys.length ≤ fst1 above d key
   ·rw [if_pos hl] at h; exact .inl ⟨hl, (Option.some.inj h).symm⟩
   ·rw [if_neg hl] at h
    right
    cases h1 : d.keys[fst1 above d key]? with
    | none => simp [h1] at h
    | some k =>
     cases h2 : d.nums[fst1 above d key]? with
     | none => simp [h1, h2] at h
     | some n => simp [h1, h2] at h; exact ⟨k, n, rfl, rfl, h.symm⟩
  ·rw [if_neg hk] at h
   right
   refine ⟨hk, ?_⟩
   cases hc : d.kids[wayN d key]? with
   | none => simp [hc] at h
   | some c =>
    simp only [hc] at h
    cases hr : fstN f l c key above with
    | none => simp [hr] at h
    | some r' =>
     simp only [hr] at h
     refine ⟨c, r', rfl, hr, ?_⟩
     cases r' with
     | some q => exact .inl ⟨q, rfl, (Option.some.inj h).symm⟩
     | none =>
      right
      refine ⟨rfl, ?_⟩
      cases hc' : d.kids[wayN d key + 1]? with
      | none => simp [hc'] at h; exact .inl ⟨rfl, h.symm⟩
      | some c' =>
       simp only [hc'] at h
       cases he : edg f l c' with
       | none => simp [he] at h
       | some q => simp [he] at h; exact .inr ⟨c', q, rfl, he, h.symm⟩
theorem fstN_lt {f : Nat} {l : List Nd} {i : Nat} {key : ByteArray} {above : Bool} {r : Option (ByteArray × Int)} (h : fstN f l i key above = some r) : i < l.length := by
 cases f with
 | zero => simp [fstN] at h
 | succ f => obtain ⟨d, h, _⟩ := fstN_some h; exact (List.getElem?_eq_some_iff.1 h).1
def RiseAll (l : List Nd) : Prop := ∀ (i : Nat) (d : Nd), l[i]? = some d → Rise d.keys ∧ d.keys.length ≤ 1000000 ∧ d.kids.length ≤ 1000000
end Go.Proofs.YtcpbibdbahfgaaaGreat
