/-
 The assertions of the engine: heap fragments of shared and of owned blocks, their separating sum, and what it means that a world meets one.
-/
import Derived.Tactics
import Derived.Laws.CopyRow
import Derived.Deep.AppendSrc
import Derived.Orders
set_option linter.unusedVariables false
set_option linter.unusedSimpArgs false
set_option autoImplicit false
namespace Go.Eng

abbrev Hh := Nat → Option Obj
def Sub (x y : Hh) : Prop := ∀ b o, x b = some o → y b = some o
theorem Sub.rfl {x : Hh} : Sub x x := fun _ _ h => h
theorem Sub.trans {x y z : Hh} (h : Sub x y) (h' : Sub y z) : Sub x z := fun b o e => h' b o (h b o e)

structure HP where
 P : Hh → Hh → Prop
 mono : ∀ {r r' x x' : Hh}, Sub r r' → Sub x x' → P r x → P r' x'

def Join (x1 x2 x : Hh) : Prop := ∀ b, (x b = x1 b ∧ x2 b = none) ∨ (x b = x2 b ∧ x1 b = none)
theorem Join.sub1 {x1 x2 x : Hh} (h : Join x1 x2 x) : Sub x1 x := fun b o e => by
 rcases h b with ⟨h1, _⟩ | ⟨_, h2⟩
 ·rw [h1, e]
 ·rw [h2] at e; cases e
theorem Join.sub2 {x1 x2 x : Hh} (h : Join x1 x2 x) : Sub x2 x := fun b o e => by
 rcases h b with ⟨_, h2⟩ | ⟨h1, _⟩
 ·rw [h2] at e; cases e
 ·rw [h1, e]
theorem Join.comm {x1 x2 x : Hh} (h : Join x1 x2 x) : Join x2 x1 x := fun b => (h b).symm

def sep (A B : HP) : HP where
 P r x := ∃ x1 x2, Join x1 x2 x ∧ A.P r x1 ∧ B.P r x2
 mono := by
  rintro r r' x x' hr hx ⟨x1, x2, hj, ha, hb⟩
  refine ⟨fun b => if (x2 b).isNone then x' b else none, x2, ?_, A.mono hr ?_ ha, B.mono hr Sub.rfl hb⟩
  ·intro b
   cases h2 : x2 b with
   | none => left; simp [h2]
   | some o => right; exact ⟨hx b o (hj.sub2 b o h2), by simp [h2]⟩
  ·intro b o e
   rcases hj b with ⟨h1, h2⟩ | ⟨_, h2⟩
   ·simp [h2, hx b o (h1.trans e)]
   ·rw [h2] at e; cases e

def emp : HP := ⟨fun _ _ => True, fun _ _ _ => trivial⟩
def seps : List HP → HP
 | [] => emp
 | A :: l => sep A (seps l)

def Ent (A B : HP) : Prop := ∀ r x, A.P r x → B.P r x
theorem Ent.rfl {A : HP} : Ent A A := fun _ _ h => h
theorem Ent.trans {A B C : HP} (h : Ent A B) (h' : Ent B C) : Ent A C := fun r x p => h' r x (h r x p)
theorem Ent.sep {A A' B B' : HP} (h : Ent A A') (h' : Ent B B') : Ent (sep A B) (sep A' B') :=
 fun r _ ⟨x1, x2, hj, ha, hb⟩ => ⟨x1, x2, hj, h r x1 ha, h' r x2 hb⟩
theorem Ent.comm {A B : HP} : Ent (Eng.sep A B) (Eng.sep B A) := fun _ _ ⟨x1, x2, hj, ha, hb⟩ => ⟨x2, x1, hj.comm, hb, ha⟩
theorem Ent.left {A B : HP} : Ent (Eng.sep A B) A := fun _ _ ⟨_, _, hj, ha, _⟩ => A.mono Sub.rfl hj.sub1 ha
theorem Ent.right {A B : HP} : Ent (Eng.sep A B) B := fun _ _ ⟨_, _, hj, _, hb⟩ => B.mono Sub.rfl hj.sub2 hb
theorem join_assoc {x1 x2 x3 y x : Hh} (h : Join y x3 x) (h' : Join x1 x2 y) : ∃ z, Join x1 z x ∧ Join x2 x3 z := by
 refine ⟨fun b => if (x2 b).isNone then x3 b else x2 b, fun b => ?_, fun b => ?_⟩
 ·rcases h b with ⟨a1, a2⟩ | ⟨a1, a2⟩ <;> rcases h' b with ⟨b1, b2⟩ | ⟨b1, b2⟩ <;> (cases e2 : x2 b <;> simp_all)
 ·rcases h b with ⟨a1, a2⟩ | ⟨a1, a2⟩ <;> rcases h' b with ⟨b1, b2⟩ | ⟨b1, b2⟩ <;> (cases e2 : x2 b <;> simp_all)
theorem Ent.assoc {A B C : HP} : Ent (Eng.sep (Eng.sep A B) C) (Eng.sep A (Eng.sep B C)) := by
 rintro r x ⟨y, x3, hj, ⟨x1, x2, hj', ha, hb⟩, hc⟩
 obtain ⟨z, h1, h2⟩ := join_assoc hj hj'
 exact ⟨x1, z, h1, ha, x2, x3, h2, hb, hc⟩
theorem Ent.assoc' {A B C : HP} : Ent (Eng.sep A (Eng.sep B C)) (Eng.sep (Eng.sep A B) C) :=
 (Ent.comm.trans (Ent.sep Ent.comm Ent.rfl)).trans (Ent.assoc.trans (Ent.comm.trans (Ent.sep Ent.comm Ent.rfl)))
theorem Ent.empL {A : HP} : Ent A (Eng.sep emp A) := fun r x h => ⟨fun _ => none, x, fun _ => .inr ⟨Eq.refl _, Eq.refl _⟩, trivial, h⟩
theorem Ent.swap {A B C : HP} : Ent (Eng.sep A (Eng.sep B C)) (Eng.sep B (Eng.sep A C)) :=
 Ent.assoc'.trans ((Ent.sep Ent.comm Ent.rfl).trans Ent.assoc)
theorem Ent.append {l m : List HP} : Ent (seps (l ++ m)) (Eng.sep (seps l) (seps m)) := by
 induction l with
 | nil => exact Ent.empL
 | cons A l ih => exact (Ent.sep Ent.rfl ih).trans Ent.assoc'
theorem Ent.append' {l m : List HP} : Ent (Eng.sep (seps l) (seps m)) (seps (l ++ m)) := by
 induction l with
 | nil => exact Ent.right
 | cons A l ih => exact Ent.assoc.trans (Ent.sep Ent.rfl ih)

/-- The i-th of a list. -/
def nth {α : Type} : List α → Nat → Option α
 | [], _ => none
 | a :: _, 0 => some a
 | _ :: l, n + 1 => nth l n
def del {α : Type} : List α → Nat → List α
 | [], _ => []
 | _ :: l, 0 => l
 | a :: l, n + 1 => a :: del l n
def put {α : Type} : List α → Nat → α → List α
 | [], _, _ => []
 | _ :: l, 0, b => b :: l
 | a :: l, n + 1, b => a :: put l n b
theorem Ent.out {l : List HP} {i : Nat} {A : HP} (h : nth l i = some A) : Ent (seps l) (Eng.sep A (seps (del l i))) := by
 induction l generalizing i with
 | nil => simp [nth] at h
 | cons B l ih =>
  cases i with
  | zero => simp [nth] at h; subst h; exact Ent.rfl
  | succ i => exact (Ent.sep Ent.rfl (ih h)).trans Ent.swap
theorem Ent.back {l : List HP} {i : Nat} {A B : HP} (h : nth l i = some A) : Ent (Eng.sep B (seps (del l i))) (seps (put l i B)) := by
 induction l generalizing i with
 | nil => simp [nth] at h
 | cons C l ih =>
  cases i with
  | zero => exact Ent.rfl
  | succ i => exact Ent.swap.trans (Ent.sep Ent.rfl (ih h))
/-- Some taken out of a list, each place told in what is left. -/
def pick : List Nat → List HP → Option (List HP × List HP)
 | [], l => some ([], l)
 | i :: is, l => match nth l i with
  | some A => match pick is (del l i) with
   | some (s, r) => some (A :: s, r)
   | none => none
  | none => none
theorem Ent.pick {is : List Nat} {l s r : List HP} (h : pick is l = some (s, r)) : Ent (seps l) (Eng.sep (seps s) (seps r)) := by
 induction is generalizing l s r with
 | nil => simp [Eng.pick] at h; obtain ⟨rfl, rfl⟩ := h; exact Ent.empL
 | cons i is ih =>
  simp only [Eng.pick] at h
  split at h
  ·rename_i A hA
   split at h
   ·rename_i s' r' hp
    simp at h; obtain ⟨rfl, rfl⟩ := h
    exact (Ent.out hA).trans ((Ent.sep Ent.rfl (ih hp)).trans Ent.assoc')
   ·cases h
  ·cases h

/-- What of the outside stays. -/
structure Io where
 os : Os
 out : Array (Nat × ByteArray)
structure Sat (w : World) (r x : Hh) : Prop where
 ro : Sub r (fun b => w.heap[b]?)
 rw : Sub x (fun b => w.heap[b]?)
 dj : ∀ b, r b = none ∨ x b = none
def Holds (ι : Io) (w : World) (A : HP) : Prop := w.os = ι.os ∧ w.output = ι.out ∧ ∃ r x, Sat w r x ∧ A.P r x
theorem Holds.ent {ι : Io} {w : World} {A B : HP} (h : Holds ι w A) (e : Ent A B) : Holds ι w B :=
 let ⟨a, b, r, x, s, p⟩ := h; ⟨a, b, r, x, s, e r x p⟩
theorem Holds.drew {ι : Io} {w : World} {A : HP} (h : Holds ι w A) (n : Nat) : Holds ι { w with drawn := n } A :=
 let ⟨a, b, r, x, s, p⟩ := h; ⟨a, b, r, x, ⟨s.ro, s.rw, s.dj⟩, p⟩
/-- More is known, or other blocks are owned, of the same world. -/
def VS (A B : HP) : Prop := ∀ ι w F, Holds ι w (sep A F) → Holds ι w (sep B F)
theorem VS.of_ent {A B : HP} (h : Ent A B) : VS A B := fun _ _ _ hh => hh.ent (Ent.sep h Ent.rfl)

/-- An owned block. -/
def Pts (b : Nat) (cs : List Value) (ty : TypeId) : HP := ⟨fun _ x => x b = some (.cells cs.toArray ty (0, 0)), fun _ hx h => hx _ _ h⟩
/-- A shared block: nobody writes it any more. -/
def Ro (b : Nat) (cs : List Value) (ty : TypeId) : HP := ⟨fun r _ => ∃ fr, r b = some (.cells cs.toArray ty fr), fun hr _ ⟨fr, h⟩ => ⟨fr, hr _ _ h⟩⟩
def lift (p : Prop) : HP := ⟨fun _ _ => p, fun _ _ h => h⟩
def ex {α : Type} (f : α → HP) : HP := ⟨fun r x => ∃ a, (f a).P r x, fun hr hx ⟨a, h⟩ => ⟨a, (f a).mono hr hx h⟩⟩

theorem Holds.pts {ι : Io} {w : World} {b : Nat} {cs : List Value} {ty : TypeId} (h : Holds ι w (Pts b cs ty)) : w.heap[b]? = some (.cells cs.toArray ty (0, 0)) :=
 let ⟨_, _, _, _, s, p⟩ := h; s.rw _ _ p
theorem Holds.roC {ι : Io} {w : World} {b : Nat} {cs : List Value} {ty : TypeId} (h : Holds ι w (Ro b cs ty)) : ∃ fr, w.heap[b]? = some (.cells cs.toArray ty fr) :=
 let ⟨_, _, _, _, s, fr, p⟩ := h; ⟨fr, s.ro _ _ p⟩

/-- An owned block may be shared from here on. -/
theorem VS.share {b : Nat} {cs : List Value} {ty : TypeId} : VS (Pts b cs ty) (Ro b cs ty) := by
 rintro ι w F ⟨h1, h2, r, x, s, x1, x2, hj, hp, hf⟩
 have hb : x1 b = some (.cells cs.toArray ty (0, 0)) := hp
 have hx2 : x2 b = none := by
  rcases hj b with ⟨_, h⟩ | ⟨_, h⟩
  ·exact h
  ·rw [h] at hb; cases hb
 have hxb := hj.sub1 b _ hb
 have hsub : Sub r (fun k => if k = b then some (.cells cs.toArray ty (0, 0)) else r k) := by
  intro k o e
  show (if k = b then _ else _) = _
  split
  ·rename_i hk; subst hk
   rcases s.dj k with h | h
   ·rw [h] at e; cases e
   ·rw [h] at hxb; cases hxb
  ·exact e
 refine ⟨h1, h2, _, x2, ⟨?_, fun k o e => s.rw k o (hj.sub2 k o e), ?_⟩, fun _ => none, x2, fun k => .inr ⟨rfl, rfl⟩, ⟨(0, 0), if_pos rfl⟩, F.mono hsub Sub.rfl hf⟩
 ·intro k o e
  have e' : (if k = b then some (Obj.cells cs.toArray ty (0, 0)) else r k) = some o := e
  split at e'
  ·rename_i hk; subst hk; rw [← e']; exact s.rw _ _ hxb
  ·exact s.ro k o e'
 ·intro k
  by_cases hk : k = b
  ·right; rw [hk]; exact hx2
  ·rcases s.dj k with h | h
   ·left; simp [hk, h]
   ·right
    cases e : x2 k with
    | none => rfl
    | some o => rw [hj.sub2 k o e] at h; cases h
theorem VS.sep {A A' B : HP} (h : VS A A') : VS (sep A B) (sep A' B) := fun ι w F hh =>
 (h ι w (Eng.sep B F) (hh.ent Ent.assoc)).ent Ent.assoc'

/-- A new block. -/
theorem Holds.new {ι : Io} {w : World} {F : HP} (h : Holds ι w F) (cs : List Value) (ty : TypeId) :
  Holds ι { w with heap := w.heap.push (.cells cs.toArray ty (0, 0)) } (sep (Pts w.heap.size cs ty) F) := by
 obtain ⟨h1, h2, r, x, s, p⟩ := h
 have old : ∀ (b : Nat) (o : Obj), w.heap[b]? = some o → (w.heap.push (.cells cs.toArray ty (0, 0)))[b]? = some o := fun b o e => by
  have := (Array.getElem?_eq_some_iff.1 e).1
  rw [Array.getElem?_push, if_neg (by omega)]; exact e
 have hxn : x w.heap.size = none := by
  cases e : x w.heap.size with
  | none => rfl
  | some o => have := s.rw _ _ e; simp at this
 have hrn : r w.heap.size = none := by
  cases e : r w.heap.size with
  | none => rfl
  | some o => have := s.ro _ _ e; simp at this
 refine ⟨h1, h2, r, fun b => if b = w.heap.size then some (.cells cs.toArray ty (0, 0)) else x b, ⟨fun b o e => old b o (s.ro b o e), ?_, ?_⟩, fun b => if b = w.heap.size then some (.cells cs.toArray ty (0, 0)) else none, x, ?_, if_pos rfl, p⟩
 ·intro b o e
  have e' : (if b = w.heap.size then some (Obj.cells cs.toArray ty (0, 0)) else x b) = some o := e
  split at e'
  ·rename_i hb; subst hb; simpa using e'
  ·exact old b o (s.rw b o e')
 ·intro b
  by_cases hb : b = w.heap.size
  ·left; rw [hb]; exact hrn
  ·simp only [hb, if_false]; exact s.dj b
 ·intro b
  by_cases hb : b = w.heap.size
  ·left; simp [hb, hxn]
  ·right; simp [hb]

/-- A row set anew. -/
theorem Holds.set {ι : Io} {w : World} {F : HP} {b : Nat} {cs : List Value} {ty : TypeId} (h : Holds ι w (sep (Pts b cs ty) F)) (cs' : List Value) :
  Holds ι (w.setRow b cs'.toArray) (sep (Pts b cs' ty) F) := by
 obtain ⟨h1, h2, r, x, s, x1, x2, hj, hp, hf⟩ := h
 have hb : x1 b = some (.cells cs.toArray ty (0, 0)) := hp
 have hx2 : x2 b = none := by
  rcases hj b with ⟨_, h⟩ | ⟨_, h⟩
  ·exact h
  ·rw [h] at hb; cases hb
 have hxb := hj.sub1 b _ hb
 have hwb := s.rw _ _ hxb
 have hnew : (w.setRow b cs'.toArray).heap[b]? = some (.cells cs'.toArray ty (0, 0)) := setRow_heap w b cs.toArray _ ty _ hwb
 have hold : ∀ k, k ≠ b → (w.setRow b cs'.toArray).heap[k]? = w.heap[k]? := fun k hk => setRow_other w b k _ hk
 refine ⟨h1, h2, r, fun k => if k = b then some (.cells cs'.toArray ty (0, 0)) else x2 k, ⟨?_, ?_, ?_⟩, fun k => if k = b then some (.cells cs'.toArray ty (0, 0)) else none, x2, ?_, if_pos rfl, hf⟩
 ·intro k o e
  by_cases hk : k = b
  ·subst hk
   rcases s.dj k with h | h
   ·rw [h] at e; cases e
   ·rw [h] at hxb; cases hxb
  ·show (w.setRow b cs'.toArray).heap[k]? = some o
   rw [hold k hk]; exact s.ro k o e
 ·intro k o e
  have e' : (if k = b then some (Obj.cells cs'.toArray ty (0, 0)) else x2 k) = some o := e
  show (w.setRow b cs'.toArray).heap[k]? = some o
  split at e'
  ·rename_i hk; subst hk; rw [hnew]; exact e'
  ·rename_i hk; rw [hold k hk]; exact s.rw k o (hj.sub2 k o e')
 ·intro k
  by_cases hk : k = b
  ·left; subst hk
   rcases s.dj k with h | h
   ·exact h
   ·rw [h] at hxb; cases hxb
  ·simp only [hk, if_false]
   rcases s.dj k with h | h
   ·exact .inl h
   ·right
    cases e : x2 k with
    | none => rfl
    | some o => rw [hj.sub2 k o e] at h; cases h
 ·intro k
  by_cases hk : k = b
  ·left; simp [hk, hx2]
  ·right; simp [hk]
end Go.Eng
