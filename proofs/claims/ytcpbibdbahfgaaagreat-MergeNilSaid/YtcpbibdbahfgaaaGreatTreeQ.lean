/-
 A tree that is written to: chunks with holes; what the writing functions come to, as relations on lists.
-/
import Derived.Test.YtcpbibdbahfgaaaGreatSl4
import Derived.Test.YtcpbibdbahfgaaaGreatTree2
set_option linter.unusedVariables false
set_option autoImplicit false
namespace Go.Proofs.YtcpbibdbahfgaaaGreat
open Go.Eng
/-- The nodes, but some. -/
def NodesX (ho : List Nat) (hs : List Nd3) (ds : List Nd) : HP := bigs (fun i => if i ∈ ho then emp else nodeAt hs ds i) ds.length
theorem NodesX.nil {hs : List Nd3} {ds : List Nd} : NodesX [] hs ds = Nodes hs ds := by simp [NodesX, Nodes]
section
variable {ho : List Nat} {hs hs' : List Nd3} {ds ds' : List Nd} {i : Nat} {h : Nd3} {d : Nd}
theorem NodesX.out (hi : i ∉ ho) (e : hs[i]? = some h) (e' : ds[i]? = some d) : Ent (NodesX ho hs ds) (sep (NodeC h d) (NodesX (i :: ho) hs ds)) := by
 have hl := (List.getElem?_eq_some_iff.1 e').1
 have h1 := bigs_out (f := fun i => if i ∈ ho then emp else nodeAt hs ds i) hl
 simp only [hi, if_false, nodeAt_some e e'] at h1
 refine h1.trans (Ent.sep Ent.rfl ?_)
 unfold NodesX
 rw [bigs_congr (g := fun j => if j ∈ i :: ho then emp else nodeAt hs ds j) ?_]
 ·exact Ent.rfl
 ·intro j hj
  by_cases hji : j = i
  ·subst hji; simp [upd]
  ·simp [upd, hji]
theorem NodesX.into (hi : i ∉ ho) (e : hs'[i]? = some h) (e' : ds'[i]? = some d) (hl : ds'.length = ds.length) (hh : ∀ j, j ≠ i → j ∉ ho → hs'[j]? = hs[j]?) (hd : ∀ j, j ≠ i → j ∉ ho → ds'[j]? = ds[j]?) :
  Ent (sep (NodeC h d) (NodesX (i :: ho) hs ds)) (NodesX ho hs' ds') := by
 have hlt := (List.getElem?_eq_some_iff.1 e').1
 rw [hl] at hlt
 have h1 := bigs_in (f := fun j => if j ∈ i :: ho then emp else nodeAt hs ds j) (NodeC h d) hlt (by simp)
 refine h1.trans ?_
 unfold NodesX
 rw [hl, bigs_congr (g := fun j => if j ∈ ho then emp else nodeAt hs' ds' j) ?_]
 ·exact Ent.rfl
 ·intro j hj
  by_cases hji : j = i
  ·subst hji; simp [upd, hi, nodeAt_some e e']
  ·by_cases hjh : j ∈ ho
   ·simp [upd, hji, hjh]
   ·simp only [upd, hji, if_false, List.mem_cons, hjh, or_self]
    unfold nodeAt
    rw [hh j hji hjh, hd j hji hjh]
theorem NodesX.same (hl : ds'.length = ds.length) (hh : ∀ j, j ∉ ho → hs'[j]? = hs[j]?) (hd : ∀ j, j ∉ ho → ds'[j]? = ds[j]?) : Ent (NodesX ho hs ds) (NodesX ho hs' ds') := by
 unfold NodesX
 rw [hl, bigs_congr (g := fun j => if j ∈ ho then emp else nodeAt hs' ds' j) ?_]
 ·exact Ent.rfl
 ·intro j hj
  by_cases hjh : j ∈ ho
  ·simp [hjh]
  ·simp only [hjh, if_false]
   unfold nodeAt
   rw [hh j hjh, hd j hjh]
theorem NodesX.see (hi : i ∉ ho) (e : hs[i]? = some h) (e' : ds[i]? = some d) : Ent (NodesX ho hs ds) (NodeC h d) := (NodesX.out hi e e').trans Ent.left
theorem NodesX.visK (hi : i ∉ ho) (e : hs[i]? = some h) (e' : ds[i]? = some d) : Vis (NodesX ho hs ds) (Rd eStr h.k d.keys) := Sl.vis.ent ((NodesX.see hi e e').trans Ent.left)
theorem NodesX.visN (hi : i ∉ ho) (e : hs[i]? = some h) (e' : ds[i]? = some d) : Vis (NodesX ho hs ds) (Rd eInt h.n d.nums) := Sl.vis.ent ((NodesX.see hi e e').trans (Ent.right.trans Ent.left))
theorem NodesX.visC (hi : i ∉ ho) (e : hs[i]? = some h) (e' : ds[i]? = some d) : Vis (NodesX ho hs ds) (Rd eNat h.c d.kids) := Sl.vis.ent ((NodesX.see hi e e').trans (Ent.right.trans Ent.right))
/-- A node in the place of another one. -/
theorem Nodes.set (hlen : hs.length = ds.length) (hi : i < ds.length) : Ent (sep (NodeC h d) (Nodes hs ds)) (Nodes (hs.set i h) (ds.set i d)) := by
 obtain ⟨h0, e⟩ : ∃ h0, hs[i]? = some h0 := ⟨_, List.getElem?_eq_getElem (by omega)⟩
 obtain ⟨d0, e'⟩ : ∃ d0, ds[i]? = some d0 := ⟨_, List.getElem?_eq_getElem hi⟩
 rw [← NodesX.nil, ← NodesX.nil]
 refine (Ent.sep Ent.rfl ((NodesX.out (ho := []) (by simp) e e').trans Ent.right)).trans ?_
 exact NodesX.into (ho := []) (i := i) List.not_mem_nil (by rw [List.getElem?_set_self (by omega)]) (by rw [List.getElem?_set_self hi]) List.length_set (fun j hj _ => by rw [List.getElem?_set_ne (Ne.symm hj)]) (fun j hj _ => by rw [List.getElem?_set_ne (Ne.symm hj)])
theorem Nodes.push (hlen : hs.length = ds.length) : Ent (sep (NodeC h d) (Nodes hs ds)) (Nodes (hs ++ [h]) (ds ++ [d])) := by
 have e1 : nodeAt (hs ++ [h]) (ds ++ [d]) ds.length = NodeC h d := nodeAt_some (by rw [List.getElem?_append_right (by omega)]; simp [hlen]) (by rw [List.getElem?_append_right (by omega)]; simp)
 have e2 : bigs (nodeAt (hs ++ [h]) (ds ++ [d])) ds.length = bigs (nodeAt hs ds) ds.length := bigs_congr fun j hj => by
  unfold nodeAt
  rw [List.getElem?_append_left (by omega), List.getElem?_append_left hj]
 unfold Nodes
 rw [List.length_append, List.length_singleton]
 show Ent _ (sep (nodeAt (hs ++ [h]) (ds ++ [d]) ds.length) (bigs (nodeAt (hs ++ [h]) (ds ++ [d])) ds.length))
 rw [e1, e2]
 exact Ent.rfl
end
def nd0 : Nd := ⟨[], [], []⟩
def nil3 : Nd3 := ⟨nilS, nilS, nilS⟩
theorem NodeC.nil : Ent emp (NodeC nil3 nd0) := by
 unfold NodeC
 exact Ent.empL.trans (Ent.sep Sl.nil (Ent.empL.trans (Ent.sep Sl.nil Sl.nil)))
structure Good (d : Nd) : Prop where
 rise : Rise d.keys
 k : d.keys.length ≤ 1000
 n : d.nums.length ≤ 1000
 c : d.kids.length ≤ 1000
/-- A node is added. -/
inductive AddR (l : List Nd) (fr : List Nat) (x : Nd) : Nat → List Nd → List Nat → Prop
 | old (fr0 : List Nat) (i : Nat) (hf : fr = fr0 ++ [i]) (hi : i < l.length) (hb : fr.length ≤ 1000000) : AddR l fr x i (l.set i x) fr0
 | new (hf : fr = []) (hb : l.length ≤ 1000000) : AddR l fr x l.length (l ++ [x]) []
def cutL (d : Nd) : Nd := if d.kids = [] then ⟨d.keys.take (d.keys.length / 2), d.nums.take (d.keys.length / 2), []⟩ else ⟨d.keys.take (d.kids.length / 2 - 1), d.nums, d.kids.take (d.kids.length / 2)⟩
def cutR (d : Nd) : Nd := if d.kids = [] then ⟨d.keys.drop (d.keys.length / 2), d.nums.drop (d.keys.length / 2), []⟩ else ⟨d.keys.drop (d.kids.length / 2), [], d.kids.drop (d.kids.length / 2)⟩
def cutK (d : Nd) : Nat := if d.kids = [] then d.keys.length / 2 else d.kids.length / 2 - 1
/-- A node is split. -/
structure SplitR (l : List Nd) (fr : List Nat) (i k : Nat) (s : ByteArray) (l' : List Nd) (fr' : List Nat) : Prop where
 ok : ∃ d l1, l[i]? = some d ∧ Good d ∧ d.keys[cutK d]? = some s ∧ (d.kids = [] → d.nums.length = d.keys.length) ∧ (d.kids ≠ [] → 2 ≤ d.kids.length ∧ d.kids.length ≤ d.keys.length + 1) ∧ AddR l fr (cutR d) k l1 fr' ∧ k ≠ i ∧ l' = l1.set i (cutL d)
def insL (d : Nd) (key : ByteArray) (n : Int) : Nd := ⟨d.keys.take (lb d.keys key) ++ key :: d.keys.drop (lb d.keys key), d.nums.take (lb d.keys key) ++ n :: d.nums.drop (lb d.keys key), d.kids⟩
def insK (d : Nd) (w : Nat) (s : ByteArray) (k : Nat) : Nd := ⟨d.keys.take w ++ s :: d.keys.drop w, d.nums, d.kids.take (w + 1) ++ k :: d.kids.drop (w + 1)⟩
/-- A key is put below a node. -/
inductive PutR (key : ByteArray) (n : Int) : Nat → List Nd → List Nat → Nat → List Nd → List Nat → Prop
 | leaf {f : Nat} {l : List Nd} {fr : List Nat} {i : Nat} (d : Nd) (hd : l[i]? = some d) (hg : Good d) (hk : d.kids = []) (hn : d.nums.length = d.keys.length) : PutR key n (f + 1) l fr i (l.set i (insL d key n)) fr
 | deep {f : Nat} {l l1 : List Nd} {fr fr1 : List Nat} {i : Nat} (d dc : Nd) (c : Nat) (hd : l[i]? = some d) (hg : Good d) (hk : d.kids ≠ []) (hc : d.kids[wayN d key]? = some c) (hp : PutR key n f l fr c l1 fr1) (hdc : l1[c]? = some dc) (hgc : Good dc) (hs : sizeN dc ≤ 4) : PutR key n (f + 1) l fr i l1 fr1
 | split {f : Nat} {l l1 l2 : List Nd} {fr fr1 fr2 : List Nat} {i : Nat} (d dc d2 : Nd) (c k : Nat) (s : ByteArray) (hd : l[i]? = some d) (hg : Good d) (hk : d.kids ≠ []) (hc : d.kids[wayN d key]? = some c) (hp : PutR key n f l fr c l1 fr1) (hdc : l1[c]? = some dc) (hgc : Good dc) (hs : 4 < sizeN dc)
   (hsp : SplitR l1 fr1 c k s l2 fr2) (hd2 : l2[i]? = some d2) (hg2 : Good d2) (hw : wayN d key ≤ d2.keys.length) (hw2 : wayN d key + 1 ≤ d2.kids.length) : PutR key n (f + 1) l fr i (l2.set i (insK d2 (wayN d key) s k)) fr2
/-! ### Taking away -/
def delL (d : Nd) (key : ByteArray) : Nd := ⟨d.keys.take (lb d.keys key) ++ d.keys.drop (lb d.keys key + 1), d.nums.take (lb d.keys key) ++ d.nums.drop (lb d.keys key + 1), d.kids⟩
/-- Two kids made one. -/
def joinA (da db : Nd) (s : ByteArray) : Nd := ⟨(if da.kids = [] then da.keys else da.keys ++ [s]) ++ db.keys, da.nums ++ db.nums, da.kids ++ db.kids⟩
def joinX (d : Nd) (w : Nat) : Nd := ⟨d.keys.take (w - 1) ++ d.keys.drop w, d.nums, d.kids.take w ++ d.kids.drop (w + 1)⟩
/-- Two kids parted anew. -/
def allK (da db : Nd) (s : ByteArray) : List ByteArray := (if da.kids = [] then da.keys else da.keys ++ [s]) ++ db.keys
def partH (da db : Nd) : Nat := (sizeN da + sizeN db) / 2
def partA (da db : Nd) (s : ByteArray) : Nd := if da.kids = [] then ⟨(allK da db s).take (partH da db), (da.nums ++ db.nums).take (partH da db), []⟩ else ⟨(allK da db s).take (partH da db - 1), [], (da.kids ++ db.kids).take (partH da db)⟩
def partB (da db : Nd) (s : ByteArray) : Nd := if da.kids = [] then ⟨(allK da db s).drop (partH da db), (da.nums ++ db.nums).drop (partH da db), []⟩ else ⟨(allK da db s).drop (partH da db), [], (da.kids ++ db.kids).drop (partH da db)⟩
def partK (da db : Nd) : Nat := if da.kids = [] then partH da db else partH da db - 1
/-- Of two kids side by side one is too poor. -/
structure MendC (l : List Nd) (x w : Nat) (d da db : Nd) (a b : Nat) (s : ByteArray) : Prop where
 hd : l[x]? = some d
 hg : Good d
 ha : d.kids[w - 1]? = some a
 hb : d.kids[w]? = some b
 hda : l[a]? = some da
 hdb : l[b]? = some db
 hga : Good da
 hgb : Good db
 hw : 1 ≤ w
 hs : d.keys[w - 1]? = some s
 hxa : x ≠ a
 hxb : x ≠ b
 hab : a ≠ b
inductive MendR (l : List Nd) (fr : List Nat) (x w : Nat) : List Nd → List Nat → Prop
 | join (d da db : Nd) (a b : Nat) (s : ByteArray) (h : MendC l x w d da db a b s) (hs : sizeN da + sizeN db ≤ 4) (hb : fr.length ≤ 1000000) : MendR l fr x w (((l.set a (joinA da db s)).set x (joinX d w)).set b nd0) (fr ++ [b])
 | part (d da db : Nd) (a b : Nat) (s t : ByteArray) (h : MendC l x w d da db a b s) (hs : 4 < sizeN da + sizeN db) (ht : (allK da db s)[partK da db]? = some t) (hl : da.kids = [] → db.kids = [] ∧ da.nums.length = da.keys.length ∧ db.nums.length = db.keys.length) (hn : da.kids ≠ [] → db.kids ≠ [] ∧ da.kids.length = da.keys.length + 1 ∧ db.kids.length = db.keys.length + 1) :
   MendR l fr x w (((l.set a (partA da db s)).set b (partB da db s)).set x ⟨d.keys.set (w - 1) t, d.nums, d.kids⟩) fr
inductive DelR (key : ByteArray) : Nat → List Nd → List Nat → Nat → List Nd → List Nat → Prop
 | leaf {f : Nat} {l : List Nd} {fr : List Nat} {i : Nat} (d : Nd) (hd : l[i]? = some d) (hg : Good d) (hk : d.kids = []) (hn : d.nums.length = d.keys.length) (hf : lb d.keys key < d.keys.length) : DelR key (f + 1) l fr i (l.set i (delL d key)) fr
 | deep {f : Nat} {l l1 : List Nd} {fr fr1 : List Nat} {i : Nat} (d dc : Nd) (c : Nat) (hd : l[i]? = some d) (hg : Good d) (hk : d.kids ≠ []) (hc : d.kids[wayN d key]? = some c) (hp : DelR key f l fr c l1 fr1) (hd1 : l1[i]? = some d) (hdc : l1[c]? = some dc) (hgc : Good dc) (hs : 2 ≤ sizeN dc) (hb : fr1.length ≤ 1000000) : DelR key (f + 1) l fr i l1 fr1
 | mend {f : Nat} {l l1 l2 : List Nd} {fr fr1 fr2 : List Nat} {i : Nat} (d dc : Nd) (c : Nat) (hd : l[i]? = some d) (hg : Good d) (hk : d.kids ≠ []) (hc : d.kids[wayN d key]? = some c) (hp : DelR key f l fr c l1 fr1) (hd1 : l1[i]? = some d) (hdc : l1[c]? = some dc) (hgc : Good dc) (hs : sizeN dc < 2) (hb : fr1.length ≤ 1000000)
   (hm : MendR l1 fr1 i (max (wayN d key) 1) l2 fr2) : DelR key (f + 1) l fr i l2 fr2
/-! ### Opening nodes, and closing them -/
section
variable {P : Program} {ι : Io} {F : HP} {n : Nat} {ρ : List (Nat × Value)} {l : List HP} {K : Act → World → Prop}
theorem vc_openX (p : Nat) {ho : List Nat} {hs : List Nd3} {ds : List Nd} {i : Nat} {h : Nd3} {d : Nd} (hA : nth l p = some (NodesX ho hs ds)) (hi : i ∉ ho) (e : hs[i]? = some h) (e' : ds[i]? = some d)
  (g : VC ι F n K ρ (Sl eStr h.k d.keys :: Sl eInt h.n d.nums :: Sl eNat h.c d.kids :: NodesX (i :: ho) hs ds :: del l p)) : VC ι F n K ρ l := by
 refine vc_ent ((Ent.out hA).trans ?_) g
 refine (Ent.sep (NodesX.out hi e e') Ent.rfl).trans (Ent.assoc.trans ?_)
 unfold NodeC
 refine Ent.assoc.trans (Ent.sep Ent.rfl (Ent.assoc.trans (Ent.sep Ent.rfl Ent.rfl)))
theorem vc_openN (p : Nat) {hs : List Nd3} {ds : List Nd} {i : Nat} {h : Nd3} {d : Nd} (hA : nth l p = some (Nodes hs ds)) (e : hs[i]? = some h) (e' : ds[i]? = some d)
  (g : VC ι F n K ρ (Sl eStr h.k d.keys :: Sl eInt h.n d.nums :: Sl eNat h.c d.kids :: NodesX [i] hs ds :: del l p)) : VC ι F n K ρ l :=
 vc_openX p (ho := []) (by rw [hA, NodesX.nil]) (by simp) e e' g
theorem ent_closeX {ho : List Nat} {hs hs' : List Nd3} {ds ds' : List Nd} {i : Nat} (h : Nd3) (d : Nd) {r : List HP} (hi : i ∉ ho) (e : hs'[i]? = some h) (e' : ds'[i]? = some d) (hl : ds'.length = ds.length) (hh : ∀ j, j ≠ i → j ∉ ho → hs'[j]? = hs[j]?) (hd : ∀ j, j ≠ i → j ∉ ho → ds'[j]? = ds[j]?) :
  Ent (seps (Sl eStr h.k d.keys :: Sl eInt h.n d.nums :: Sl eNat h.c d.kids :: NodesX (i :: ho) hs ds :: r)) (seps (NodesX ho hs' ds' :: r)) := by
 refine Ent.trans ?_ (Ent.sep (NodesX.into hi e e' hl hh hd) (Ent.rfl (A := seps r)))
 unfold NodeC
 exact (Ent.sep Ent.rfl Ent.assoc').trans (Ent.assoc'.trans Ent.assoc')
theorem ent_closeN {hs hs' : List Nd3} {ds ds' : List Nd} {i : Nat} (h : Nd3) (d : Nd) {r : List HP} (e : hs'[i]? = some h) (e' : ds'[i]? = some d) (hl : ds'.length = ds.length) (hh : ∀ j, j ≠ i → hs'[j]? = hs[j]?) (hd : ∀ j, j ≠ i → ds'[j]? = ds[j]?) :
  Ent (seps (Sl eStr h.k d.keys :: Sl eInt h.n d.nums :: Sl eNat h.c d.kids :: NodesX [i] hs ds :: r)) (seps (Nodes hs' ds' :: r)) := by
 rw [← NodesX.nil (hs := hs') (ds := ds')]
 exact ent_closeX h d (by simp) e e' hl (fun j hj _ => hh j hj) (fun j hj _ => hd j hj)
theorem ent_at {l : List HP} (is : List Nat) {s r : List HP} (h : pick is l = some (s, r)) {m : List HP} (e : Ent (seps s) (seps m)) : Ent (seps l) (seps m) := (ent_pick is h).trans e
theorem ent_cons {A : HP} {l m : List HP} (e : Ent (seps l) (seps m)) : Ent (seps (A :: l)) (seps (A :: m)) := Ent.sep Ent.rfl e
theorem ent_head {A B : HP} {l : List HP} (e : Ent A B) : Ent (seps (A :: l)) (seps (B :: l)) := Ent.sep e Ent.rfl
theorem ent_two {A B C : HP} {l : List HP} (e : Ent (sep A B) C) : Ent (seps (A :: B :: l)) (seps (C :: l)) := Ent.assoc'.trans (Ent.sep e Ent.rfl)
theorem ent_node {h : Nd3} {d : Nd} {A : HP} {r : List HP} : Ent (seps (Sl eStr h.k d.keys :: Sl eInt h.n d.nums :: Sl eNat h.c d.kids :: A :: r)) (sep (sep (NodeC h d) A) (seps r)) :=
 (Ent.sep Ent.rfl Ent.assoc').trans (Ent.assoc'.trans Ent.assoc')
end
/-- The tree's node i, and what its slices' lengths tell. -/
theorem size_specD {A : HP} {ad : Addr} {h : Nd3} {d : Nd} (hk : Vis A (fun w => w.cell? (ad.add 0) = some h.k.v)) (hc : Vis A (fun w => w.cell? (ad.add 2) = some h.c.v)) (e1 : h.k.len = d.keys.length) (e2 : h.c.len = d.kids.length) :
  Does Tryz.prog 166 [.pointer (some ad)] [A] (fun v l => v = .int .i64 (sizeN d : Int) ∧ l = [A]) :=
 (size_spec hk hc).imp fun v l ⟨a, b⟩ => ⟨by rw [a, e1, e2]; unfold sizeN leafN; cases d.kids <;> simp, b⟩
theorem leaf_specD {A : HP} {ad : Addr} {h : Nd3} {d : Nd} (hc : Vis A (fun w => w.cell? (ad.add 2) = some h.c.v)) (e2 : h.c.len = d.kids.length) :
  Does Tryz.prog 163 [.pointer (some ad)] [A] (fun v l => v = .bool (decide (d.kids = [])) ∧ l = [A]) :=
 (leaf_spec hc).imp fun v l ⟨a, b⟩ => ⟨by rw [a, e2]; congr 1; cases d.kids <;> simp; omega, b⟩
theorem half {m : Nat} (h : m ≤ 1000000) : IntKind.i64.wrap ((m : Int).tdiv 2) = ((m / 2 : Nat) : Int) := by
 have : (m : Int).tdiv 2 = ((m / 2 : Nat) : Int) := by
  rw [Int.tdiv_eq_ediv_of_nonneg (by omega)]; omega
 rw [this]; exact wrap64 (by omega) (by omega)
end Go.Proofs.YtcpbibdbahfgaaaGreat
