/-
 The assertions of the engine: heap fragments of shared and of owned blocks, their separating sum, and what it means that a world meets one.
-/
import Derived.Tactics
import Derived.Laws.CopyRow
import Derived.Deep.AppendSrc
import Derived.Orders
import Derived.Laws.StructEq
import Derived.Laws.Pointers
import Derived.Laws.Small
import Derived.Lib.SliceRun
set_option linter.unusedVariables false
set_option linter.unusedSimpArgs false
set_option autoImplicit false
namespace Go.Eng
abbrev Hh := Nat → Option Obj
def Sub (x y : Hh) : Prop := ∀ b o, x b = some o → y b = some o
theorem Sub.rfl {x : Hh} : Sub x x := fun _ _ h => h
theorem Sub.trans {x y z : Hh} (h : Sub x y) (h' : Sub y z) : Sub x z := fun b o e => h' b o (h b o e)
structure HP where
 P : Hh → Hh → Prop
 mono : ∀ {r r' x x' : Hh}, Sub r r' → Sub x x' → P r x → P r' x'
def Join (x1 x2 x : Hh) : Prop := ∀ b, (x b = x1 b ∧ x2 b = none) ∨ (x b = x2 b ∧ x1 b = none)
theorem Join.sub1 {x1 x2 x : Hh} (h : Join x1 x2 x) : Sub x1 x := fun b o e => by
 rcases h b with ⟨h1, _⟩ | ⟨_, h2⟩
 ·rw [h1, e]
 ·rw [h2] at e; cases e
theorem Join.sub2 {x1 x2 x : Hh} (h : Join x1 x2 x) : Sub x2 x := fun b o e => by
 rcases h b with ⟨_, h2⟩ | ⟨h1, _⟩
 ·rw [h2] at e; cases e
 ·rw [h1, e]
theorem Join.comm {x1 x2 x : Hh} (h : Join x1 x2 x) : Join x2 x1 x := fun b => (h b).symm
def sep (A B : HP) : HP where
 P r x := ∃ x1 x2, Join x1 x2 x ∧ A.P r x1 ∧ B.P r x2
 mono := by
  rintro r r' x x' hr hx ⟨x1, x2, hj, ha, hb⟩
  refine ⟨fun b => if (x2 b).isNone then x' b else none, x2, ?_, A.mono hr ?_ ha, B.mono hr Sub.rfl hb⟩
  ·intro b
   cases h2 : x2 b with
   | none => left; simp [h2]
   | some o => right; exact ⟨hx b o (hj.sub2 b o h2), by simp [h2]⟩
  ·intro b o e
   rcases hj b with ⟨h1, h2⟩ | ⟨_, h2⟩
   ·simp [h2, hx b o (h1.trans e)]
   ·rw [h2] at e; cases e
def emp : HP := ⟨fun _ _ => True, fun _ _ _ => trivial⟩
def seps : List HP → HP
 | [] => emp
 | A :: l => sep A (seps l)
def Ent (A B : HP) : Prop := ∀ r x, A.P r x → B.P r x
theorem Ent.rfl {A : HP} : Ent A A := fun _ _ h => h
theorem Ent.trans {A B C : HP} (h : Ent A B) (h' : Ent B C) : Ent A C := fun r x p => h' r x (h r x p)
theorem Ent.sep {A A' B B' : HP} (h : Ent A A') (h' : Ent B B') : Ent (sep A B) (sep A' B') :=
 fun r _ ⟨x1, x2, hj, ha, hb⟩ => ⟨x1, x2, hj, h r x1 ha, h' r x2 hb⟩
theorem Ent.comm {A B : HP} : Ent (Eng.sep A B) (Eng.sep B A) := fun _ _ ⟨x1, x2, hj, ha, hb⟩ => ⟨x2, x1, hj.comm, hb, ha⟩
theorem Ent.left {A B : HP} : Ent (Eng.sep A B) A := fun _ _ ⟨_, _, hj, ha, _⟩ => A.mono Sub.rfl hj.sub1 ha
theorem Ent.right {A B : HP} : Ent (Eng.sep A B) B := fun _ _ ⟨_, _, hj, _, hb⟩ => B.mono Sub.rfl hj.sub2 hb
theorem join_assoc {x1 x2 x3 y x : Hh} (h : Join y x3 x) (h' : Join x1 x2 y) : ∃ z, Join x1 z x ∧ Join x2 x3 z := by
 refine ⟨fun b => if (x2 b).isNone then x3 b else x2 b, fun b => ?_, fun b => ?_⟩
 ·rcases h b with ⟨a1, a2⟩ | ⟨a1, a2⟩ <;> rcases h' b with ⟨b1, b2⟩ | ⟨b1, b2⟩ <;> (cases e2 : x2 b <;> simp_all)
 ·rcases h b with ⟨a1, a2⟩ | ⟨a1, a2⟩ <;> rcases h' b with ⟨b1, b2⟩ | ⟨b1, b2⟩ <;> (cases e2 : x2 b <;> simp_all)
theorem Ent.assoc {A B C : HP} : Ent (Eng.sep (Eng.sep A B) C) (Eng.sep A (Eng.sep B C)) := by
 rintro r x ⟨y, x3, hj, ⟨x1, x2, hj', ha, hb⟩, hc⟩
 obtain ⟨z, h1, h2⟩ := join_assoc hj hj'
 exact ⟨x1, z, h1, ha, x2, x3, h2, hb, hc⟩
theorem Ent.assoc' {A B C : HP} : Ent (Eng.sep A (Eng.sep B C)) (Eng.sep (Eng.sep A B) C) :=
 (Ent.comm.trans (Ent.sep Ent.comm Ent.rfl)).trans (Ent.assoc.trans (Ent.comm.trans (Ent.sep Ent.comm Ent.rfl)))
theorem Ent.empL {A : HP} : Ent A (Eng.sep emp A) := fun r x h => ⟨fun _ => none, x, fun _ => .inr ⟨Eq.refl _, Eq.refl _⟩, trivial, h⟩
theorem Ent.swap {A B C : HP} : Ent (Eng.sep A (Eng.sep B C)) (Eng.sep B (Eng.sep A C)) :=
 Ent.assoc'.trans ((Ent.sep Ent.comm Ent.rfl).trans Ent.assoc)
theorem Ent.append {l m : List HP} : Ent (seps (l ++ m)) (Eng.sep (seps l) (seps m)) := by
 induction l with
 | nil => exact Ent.empL
 | cons A l ih => exact (Ent.sep Ent.rfl ih).trans Ent.assoc'
theorem Ent.append' {l m : List HP} : Ent (Eng.sep (seps l) (seps m)) (seps (l ++ m)) := by
 induction l with
 | nil => exact Ent.right
 | cons A l ih => exact Ent.assoc.trans (Ent.sep Ent.rfl ih)
def nth {α : Type} : List α → Nat → Option α
 | [], _ => none
 | a :: _, 0 => some a
 | _ :: l, n + 1 => nth l n
def del {α : Type} : List α → Nat → List α
 | [], _ => []
 | _ :: l, 0 => l
 | a :: l, n + 1 => a :: del l n
def put {α : Type} : List α → Nat → α → List α
 | [], _, _ => []
 | _ :: l, 0, b => b :: l
 | a :: l, n + 1, b => a :: put l n b
theorem Ent.out {l : List HP} {i : Nat} {A : HP} (h : nth l i = some A) : Ent (seps l) (Eng.sep A (seps (del l i))) := by
 induction l generalizing i with
 | nil => simp [nth] at h
 | cons B l ih =>
  cases i with
  | zero => simp [nth] at h; subst h; exact Ent.rfl
  | succ i => exact (Ent.sep Ent.rfl (ih h)).trans Ent.swap
theorem Ent.back {l : List HP} {i : Nat} {A B : HP} (h : nth l i = some A) : Ent (Eng.sep B (seps (del l i))) (seps (put l i B)) := by
 induction l generalizing i with
 | nil => simp [nth] at h
 | cons C l ih =>
  cases i with
  | zero => exact Ent.rfl
  | succ i => exact Ent.swap.trans (Ent.sep Ent.rfl (ih h))
def pick : List Nat → List HP → Option (List HP × List HP)
 | [], l => some ([], l)
 | i :: is, l => match nth l i with
  | some A => match pick is (del l i) with
   | some (s, r) => some (A :: s, r)
   | none => none
  | none => none
theorem Ent.pick {is : List Nat} {l s r : List HP} (h : pick is l = some (s, r)) : Ent (seps l) (Eng.sep (seps s) (seps r)) := by
 induction is generalizing l s r with
 | nil => simp [Eng.pick] at h; obtain ⟨rfl, rfl⟩ := h; exact Ent.empL
 | cons i is ih =>
  simp only [Eng.pick] at h
  split at h
  ·rename_i A hA
   split at h
   ·rename_i s' r' hp
    simp at h; obtain ⟨rfl, rfl⟩ := h
    exact (Ent.out hA).trans ((Ent.sep Ent.rfl (ih hp)).trans Ent.assoc')
   ·cases h
  ·cases h
structure Io where
 os : Os
 out : Array (Nat × ByteArray)
structure Sat (w : World) (r x : Hh) : Prop where
 ro : Sub r (fun b => w.heap[b]?)
 rw : Sub x (fun b => w.heap[b]?)
 dj : ∀ b, r b = none ∨ x b = none
def Holds (ι : Io) (w : World) (A : HP) : Prop := w.os = ι.os ∧ w.output = ι.out ∧ ∃ r x, Sat w r x ∧ A.P r x
theorem Holds.ent {ι : Io} {w : World} {A B : HP} (h : Holds ι w A) (e : Ent A B) : Holds ι w B :=
 let ⟨a, b, r, x, s, p⟩ := h; ⟨a, b, r, x, s, e r x p⟩
theorem Holds.drew {ι : Io} {w : World} {A : HP} (h : Holds ι w A) (n : Nat) : Holds ι { w with drawn := n } A :=
 let ⟨a, b, r, x, s, p⟩ := h; ⟨a, b, r, x, ⟨s.ro, s.rw, s.dj⟩, p⟩
def VS (A B : HP) : Prop := ∀ ι w F, Holds ι w (sep A F) → Holds ι w (sep B F)
theorem VS.of_ent {A B : HP} (h : Ent A B) : VS A B := fun _ _ _ hh => hh.ent (Ent.sep h Ent.rfl)
def Pts (b : Nat) (cs : List Value) (ty : TypeId) : HP := ⟨fun _ x => x b = some (.cells cs.toArray ty (0, 0)), fun _ hx h => hx _ _ h⟩
def Ro (b : Nat) (cs : List Value) (ty : TypeId) : HP := ⟨fun r _ => ∃ fr, r b = some (.cells cs.toArray ty fr), fun hr _ ⟨fr, h⟩ => ⟨fr, hr _ _ h⟩⟩
def lift (p : Prop) : HP := ⟨fun _ _ => p, fun _ _ h => h⟩
def ex {α : Type} (f : α → HP) : HP := ⟨fun r x => ∃ a, (f a).P r x, fun hr hx ⟨a, h⟩ => ⟨a, (f a).mono hr hx h⟩⟩
theorem Holds.pts {ι : Io} {w : World} {b : Nat} {cs : List Value} {ty : TypeId} (h : Holds ι w (Pts b cs ty)) : w.heap[b]? = some (.cells cs.toArray ty (0, 0)) :=
 let ⟨_, _, _, _, s, p⟩ := h; s.rw _ _ p
theorem Holds.roC {ι : Io} {w : World} {b : Nat} {cs : List Value} {ty : TypeId} (h : Holds ι w (Ro b cs ty)) : ∃ fr, w.heap[b]? = some (.cells cs.toArray ty fr) :=
 let ⟨_, _, _, _, s, fr, p⟩ := h; ⟨fr, s.ro _ _ p⟩
theorem VS.share {b : Nat} {cs : List Value} {ty : TypeId} : VS (Pts b cs ty) (Ro b cs ty) := by
 rintro ι w F ⟨h1, h2, r, x, s, x1, x2, hj, hp, hf⟩
 have hb : x1 b = some (.cells cs.toArray ty (0, 0)) := hp
 have hx2 : x2 b = none := by
  rcases hj b with ⟨_, h⟩ | ⟨_, h⟩
  ·exact h
  ·rw [h] at hb; cases hb
 have hxb := hj.sub1 b _ hb
 have hsub : Sub r (fun k => if k = b then some (.cells cs.toArray ty (0, 0)) else r k) := by
  intro k o e
  show (if k = b then _ else _) = _
  split
  ·rename_i hk; subst hk
   rcases s.dj k with h | h
   ·rw [h] at e; cases e
   ·rw [h] at hxb; cases hxb
  ·exact e
 refine ⟨h1, h2, _, x2, ⟨?_, fun k o e => s.rw k o (hj.sub2 k o e), ?_⟩, fun _ => none, x2, fun k => .inr ⟨rfl, rfl⟩, ⟨(0, 0), if_pos rfl⟩, F.mono hsub Sub.rfl hf⟩
 ·intro k o e
  have e' : (if k = b then some (Obj.cells cs.toArray ty (0, 0)) else r k) = some o := e
  split at e'
  ·rename_i hk; subst hk; rw [← e']; exact s.rw _ _ hxb
  ·exact s.ro k o e'
 ·intro k
  by_cases hk : k = b
  ·right; rw [hk]; exact hx2
  ·rcases s.dj k with h | h
   ·left; simp [hk, h]
   ·right
    cases e : x2 k with
    | none => rfl
    | some o => rw [hj.sub2 k o e] at h; cases h
theorem VS.sep {A A' B : HP} (h : VS A A') : VS (sep A B) (sep A' B) := fun ι w F hh =>
 (h ι w (Eng.sep B F) (hh.ent Ent.assoc)).ent Ent.assoc'
theorem Holds.new {ι : Io} {w : World} {F : HP} (h : Holds ι w F) (cs : List Value) (ty : TypeId) :
  Holds ι { w with heap := w.heap.push (.cells cs.toArray ty (0, 0)) } (sep (Pts w.heap.size cs ty) F) := by
 obtain ⟨h1, h2, r, x, s, p⟩ := h
 have old : ∀ (b : Nat) (o : Obj), w.heap[b]? = some o → (w.heap.push (.cells cs.toArray ty (0, 0)))[b]? = some o := fun b o e => by
  have := (Array.getElem?_eq_some_iff.1 e).1
  rw [Array.getElem?_push, if_neg (by omega)]; exact e
 have hxn : x w.heap.size = none := by
  cases e : x w.heap.size with
  | none => rfl
  | some o => have := s.rw _ _ e; simp at this
 have hrn : r w.heap.size = none := by
  cases e : r w.heap.size with
  | none => rfl
  | some o => have := s.ro _ _ e; simp at this
 refine ⟨h1, h2, r, fun b => if b = w.heap.size then some (.cells cs.toArray ty (0, 0)) else x b, ⟨fun b o e => old b o (s.ro b o e), ?_, ?_⟩, fun b => if b = w.heap.size then some (.cells cs.toArray ty (0, 0)) else none, x, ?_, if_pos rfl, p⟩
 ·intro b o e
  have e' : (if b = w.heap.size then some (Obj.cells cs.toArray ty (0, 0)) else x b) = some o := e
  split at e'
  ·rename_i hb; subst hb; simpa using e'
  ·exact old b o (s.rw b o e')
 ·intro b
  by_cases hb : b = w.heap.size
  ·left; rw [hb]; exact hrn
  ·simp only [hb, if_false]; exact s.dj b
 ·intro b
  by_cases hb : b = w.heap.size
  ·left; simp [hb, hxn]
  ·right; simp [hb]
theorem Holds.set {ι : Io} {w : World} {F : HP} {b : Nat} {cs : List Value} {ty : TypeId} (h : Holds ι w (sep (Pts b cs ty) F)) (cs' : List Value) :
  Holds ι (w.setRow b cs'.toArray) (sep (Pts b cs' ty) F) := by
 obtain ⟨h1, h2, r, x, s, x1, x2, hj, hp, hf⟩ := h
 have hb : x1 b = some (.cells cs.toArray ty (0, 0)) := hp
 have hx2 : x2 b = none := by
  rcases hj b with ⟨_, h⟩ | ⟨_, h⟩
  ·exact h
  ·rw [h] at hb; cases hb
 have hxb := hj.sub1 b _ hb
 have hwb := s.rw _ _ hxb
 have hnew : (w.setRow b cs'.toArray).heap[b]? = some (.cells cs'.toArray ty (0, 0)) := setRow_heap w b cs.toArray _ ty _ hwb
 have hold : ∀ k, k ≠ b → (w.setRow b cs'.toArray).heap[k]? = w.heap[k]? := fun k hk => setRow_other w b k _ hk
 refine ⟨h1, h2, r, fun k => if k = b then some (.cells cs'.toArray ty (0, 0)) else x2 k, ⟨?_, ?_, ?_⟩, fun k => if k = b then some (.cells cs'.toArray ty (0, 0)) else none, x2, ?_, if_pos rfl, hf⟩
 ·intro k o e
  by_cases hk : k = b
  ·subst hk
   rcases s.dj k with h | h
   ·rw [h] at e; cases e
   ·rw [h] at hxb; cases hxb
  ·show (w.setRow b cs'.toArray).heap[k]? = some o
   rw [hold k hk]; exact s.ro k o e
 ·intro k o e
  have e' : (if k = b then some (Obj.cells cs'.toArray ty (0, 0)) else x2 k) = some o := e
  show (w.setRow b cs'.toArray).heap[k]? = some o
  split at e'
  ·rename_i hk; subst hk; rw [hnew]; exact e'
  ·rename_i hk; rw [hold k hk]; exact s.rw k o (hj.sub2 k o e')
 ·intro k
  by_cases hk : k = b
  ·left; subst hk
   rcases s.dj k with h | h
   ·exact h
   ·rw [h] at hxb; cases hxb
  ·simp only [hk, if_false]
   rcases s.dj k with h | h
   ·exact .inl h
   ·right
    cases e : x2 k with
    | none => rfl
    | some o => rw [hj.sub2 k o e] at h; cases h
 ·intro k
  by_cases hk : k = b
  ·left; simp [hk, hx2]
  ·right; simp [hk]
end Go.Eng
namespace Go.Eng
def lk : List (Nat × Value) → Nat → Option Value
 | [], _ => none
 | (k, v) :: r, t => bif Nat.beq k t then some v else lk r t
structure Env (n : Nat) (ρ : List (Nat × Value)) (a : Act) : Prop where
 defers : a.defers = []
 size : a.tmps.size = n
 val : ∀ t v, lk ρ t = some v → a.tmps[t]? = some v
def ev (ρ : List (Nat × Value)) : Operand → Option Value
 | .tmp t => lk ρ t
 | .const v => some v
 | .global g => some (.pointer (some ⟨g, 0, none⟩))
 | .func f => some (.func (.func f) #[] #[])
theorem Env.eval {n : Nat} {ρ : List (Nat × Value)} {a : Act} (h : Env n ρ a) {x : Operand} {v : Value} (e : ev ρ x = some v) : a.eval x = v := by
 cases x with
 | tmp t => simp [Act.eval, h.val t v e]
 | const u => simpa [ev, Act.eval] using e
 | global g => simpa [ev, Act.eval] using e
 | func f => simpa [ev, Act.eval] using e
theorem Env.put {n : Nat} {ρ : List (Nat × Value)} {a : Act} (h : Env n ρ a) (d : Nat) (hd : Nat.blt d n = true) (v : Value) : Env n ((d, v) :: ρ) (a.put (some d) v) := by
 have hd' : d < n := by simpa [Nat.blt_eq] using hd
 refine ⟨h.defers, by simp [Act.put, h.size], fun t u e => ?_⟩
 simp only [lk] at e
 simp only [Act.put]
 by_cases ht : d = t
 ·subst ht
  simp at e
  rw [Array.getElem?_setIfInBounds]
  simp [h.size, hd', e]
 ·have : Nat.beq d t = false := by
   cases hb : Nat.beq d t with
   | false => rfl
   | true => exact absurd (Nat.eq_of_beq_eq_true hb) ht
  rw [this] at e
  rw [Array.getElem?_setIfInBounds_ne ht]
  exact h.val t u e
theorem Env.put0 {n : Nat} {ρ : List (Nat × Value)} {a : Act} (h : Env n ρ a) (v : Value) : Env n ρ (a.put none v) := h
def keeps (ρ : List (Nat × Value)) : List (Nat × Value) → Prop
 | [] => True
 | (t, v) :: r => lk ρ t = some v ∧ keeps ρ r
theorem Env.keep {n : Nat} {ρ ρ' : List (Nat × Value)} {a : Act} (h : Env n ρ a) (k : keeps ρ ρ') : Env n ρ' a := by
 refine ⟨h.defers, h.size, ?_⟩
 induction ρ' with
 | nil => intro t v e; simp [lk] at e
 | cons p ρ' ih =>
  obtain ⟨t0, v0⟩ := p
  obtain ⟨k1, k2⟩ := k
  intro t v e
  simp only [lk] at e
  cases hb : Nat.beq t0 t with
  | true =>
   rw [hb] at e
   have := Nat.eq_of_beq_eq_true hb
   subst this
   simp at e; subst e
   exact h.val _ _ k1
  | false => rw [hb] at e; exact ih k2 t v e
def VC (ι : Io) (F : HP) (n : Nat) (K : Act → World → Prop) (ρ : List (Nat × Value)) (l : List HP) : Prop :=
 ∀ a w, Env n ρ a → Holds ι w (sep (seps l) F) → K a w
section
variable {P : Program} {ι : Io} {F : HP} {n : Nat} {ρ : List (Nat × Value)} {l : List HP} {K : Act → World → Prop} {Q : Exit → Act → World → Prop} {all : Array Oper} {rest : List Oper}
theorem vc_keep (ρ' : List (Nat × Value)) (k : keeps ρ ρ') (h : VC ι F n K ρ' l) : VC ι F n K ρ l := fun a w he hw => h a w (he.keep k) hw
theorem vc_imp {K' : Act → World → Prop} (h : VC ι F n K' ρ l) (hk : ∀ a w, K' a w → K a w) : VC ι F n K ρ l := fun a w he hw => hk a w (h a w he hw)
theorem vc_ent {l' : List HP} (e : Ent (seps l) (seps l')) (h : VC ι F n K ρ l') : VC ι F n K ρ l := fun a w he hw => h a w he (hw.ent (Ent.sep e Ent.rfl))
theorem vc_vs {l' : List HP} (e : VS (seps l) (seps l')) (h : VC ι F n K ρ l') : VC ι F n K ρ l := fun a w he hw => h a w he (e ι w F hw)
theorem vc_pick (is : List Nat) {s r : List HP} (e : pick is l = some (s, r)) (h : VC ι F n K ρ (s ++ r)) : VC ι F n K ρ l :=
 vc_ent ((Ent.pick e).trans Ent.append') h
theorem vc_fact (i : Nat) {A : HP} (hA : nth l i = some A) {p : Prop} (hp : ∀ ι w, Holds ι w A → p) (h : p → VC ι F n K ρ l) : VC ι F n K ρ l :=
 fun a w he hw => h (hp ι w (((hw.ent Ent.left).ent (Ent.out hA)).ent Ent.left)) a w he hw
theorem vc_turn (i : Nat) {A : HP} (hA : nth l i = some A) (B : HP) (e : VS A B) (h : VC ι F n K ρ (put l i B)) : VC ι F n K ρ l := fun a w he hw => by
 refine h a w he ?_
 have h1 : Holds ι w (sep A (sep (seps (del l i)) F)) := (hw.ent (Ent.sep (Ent.out hA) Ent.rfl)).ent Ent.assoc
 exact ((e ι w _ h1).ent Ent.assoc').ent (Ent.sep (Ent.back hA) Ent.rfl)
theorem vc_drop (i : Nat) {A : HP} (hA : nth l i = some A) (h : VC ι F n K ρ (del l i)) : VC ι F n K ρ l :=
 vc_ent ((Ent.out hA).trans Ent.right) h
theorem vc_ex (i : Nat) {α : Type} {f : α → HP} (hA : nth l i = some (ex f)) (h : ∀ x, VC ι F n K ρ (put l i (f x))) : VC ι F n K ρ l := fun a w he hw => by
 have h1 : Holds ι w (sep (ex f) (sep (seps (del l i)) F)) := (hw.ent (Ent.sep (Ent.out hA) Ent.rfl)).ent Ent.assoc
 obtain ⟨g1, g2, r, x, s, x1, x2, hj, ⟨y, hy⟩, hf⟩ := h1
 refine h y a w he ?_
 have h2 : Holds ι w (sep (f y) (sep (seps (del l i)) F)) := ⟨g1, g2, r, x, s, x1, x2, hj, hy, hf⟩
 exact (h2.ent Ent.assoc').ent (Ent.sep (Ent.back hA) Ent.rfl)
theorem vc_parts (i : Nat) {A B : HP} (hA : nth l i = some (sep A B)) (h : VC ι F n K ρ (A :: B :: del l i)) : VC ι F n K ρ l :=
 vc_ent ((Ent.out hA).trans Ent.assoc) h
theorem vc_pure (i : Nat) {p : Prop} (hA : nth l i = some (lift p)) (h : p → VC ι F n K ρ (del l i)) : VC ι F n K ρ l :=
 vc_fact i hA (fun _ _ ⟨_, _, _, _, _, hp⟩ => hp) fun hp => vc_drop i hA (h hp)
theorem VC.chunk {w : World} (hw : Holds ι w (sep (seps l) F)) {i : Nat} {A : HP} (hA : nth l i = some A) : Holds ι w A :=
 ((hw.ent Ent.left).ent (Ent.out hA)).ent Ent.left
theorem vc_seq {x y : Code} (h : VC ι F n (x.wp P (Exit.then (y.wp P Q) Q)) ρ l) : VC ι F n ((Code.seq x y).wp P Q) ρ l := fun a w he hw => wp_seq (h a w he hw)
theorem vc_skip (h : VC ι F n (Q .normal) ρ l) : VC ι F n (Code.skip.wp P Q) ρ l := fun a w he hw => wp_skip (h a w he hw)
theorem vc_ret (h : VC ι F n (Q .ret) ρ l) : VC ι F n (Code.ret.wp P Q) ρ l := fun a w he hw => wp_ret (h a w he hw)
theorem vc_exit {id : Nat} (h : VC ι F n (Q (.exit id)) ρ l) : VC ι F n ((Code.exit id).wp P Q) ρ l := fun a w he hw => wp_exit (h a w he hw)
theorem vc_block {id : Nat} {c : Code} (h : VC ι F n (c.wp P (Exit.inBlock id Q)) ρ l) : VC ι F n ((Code.block id c).wp P Q) ρ l := fun a w he hw => wp_block (h a w he hw)
theorem vc_then {Q' : Exit → Act → World → Prop} {K : Act → World → Prop} (h : VC ι F n K ρ l) : VC ι F n (Exit.then K Q' .normal) ρ l := h
theorem vc_thenRet {Q' : Exit → Act → World → Prop} {K : Act → World → Prop} (h : VC ι F n (Q' .ret) ρ l) : VC ι F n (Exit.then K Q' .ret) ρ l := h
theorem vc_thenExit {Q' : Exit → Act → World → Prop} {K : Act → World → Prop} {id : Nat} (h : VC ι F n (Q' (.exit id)) ρ l) : VC ι F n (Exit.then K Q' (.exit id)) ρ l := h
theorem vc_inRet {id : Nat} (h : VC ι F n (Q .ret) ρ l) : VC ι F n (Exit.inBlock id Q .ret) ρ l := h
theorem vc_inNormal {id : Nat} (h : VC ι F n (Q .normal) ρ l) : VC ι F n (Exit.inBlock id Q .normal) ρ l := h
theorem vc_inExit {id : Nat} (h : VC ι F n (Q .normal) ρ l) : VC ι F n (Exit.inBlock id Q (.exit id)) ρ l := fun a w he hw => by
 have := h a w he hw
 simp [Exit.inBlock]
 exact this
theorem vc_inOther {id id' : Nat} (hne : Nat.beq id' id = false) (h : VC ι F n (Q (.exit id')) ρ l) : VC ι F n (Exit.inBlock id Q (.exit id')) ρ l := fun a w he hw => by
 have := h a w he hw
 have hne' : id' ≠ id := fun e => by subst e; simp at hne
 simp [Exit.inBlock, hne']
 exact this
theorem vc_condT {c : Operand} {x y : Code} (hc : ev ρ c = some (.bool true)) (h : VC ι F n (x.wp P Q) ρ l) : VC ι F n ((Code.cond c x y).wp P Q) ρ l :=
 fun a w he hw => wp_cond_true (he.eval hc) (h a w he hw)
theorem vc_condF {c : Operand} {x y : Code} (hc : ev ρ c = some (.bool false)) (h : VC ι F n (y.wp P Q) ρ l) : VC ι F n ((Code.cond c x y).wp P Q) ρ l :=
 fun a w he hw => wp_cond_false (he.eval hc) (h a w he hw)
theorem vc_cond {c : Operand} {x y : Code} {b : Bool} (hc : ev ρ c = some (.bool b)) (ht : b = true → VC ι F n (x.wp P Q) ρ l) (hf : b = false → VC ι F n (y.wp P Q) ρ l) :
  VC ι F n ((Code.cond c x y).wp P Q) ρ l := fun a w he hw => wp_cond_split (he.eval hc) (fun e => ht e a w he hw) (fun e => hf e a w he hw)
theorem vc_loop {c : Code} {α : Type} (ρs : α → List (Nat × Value)) (ls : α → List HP) (μ : α → Nat) (ok : α → Prop)
  (x0 : α) (h0 : ok x0) (hk : keeps ρ (ρs x0)) (hl : Ent (seps l) (seps (ls x0)))
  (round : ∀ x, ok x → VC ι F n (c.wp P (Exit.then (fun a w => ∃ y, ok y ∧ μ y < μ x ∧ Env n (ρs y) a ∧ Holds ι w (sep (seps (ls y)) F)) Q)) (ρs x) (ls x)) :
  VC ι F n ((Code.loop c).wp P Q) ρ l := by
 intro a w he hw
 have key : ∀ (m : Nat) (x : α), μ x = m → ok x → ∀ a w, Env n (ρs x) a → Holds ι w (sep (seps (ls x)) F) →
   ∀ (b : Frame) (k : List Item) (cs : List Frame), ∃ e a' w', Q e a' w' ∧ Arrives P (lone (b.at a (.code c :: .inLoop c :: k)) cs w) b k cs e a' w' := by
  intro m
  induction m using Nat.strongRecOn with
  | _ m ih =>
   intro x hm hx a w he hw b k cs
   obtain ⟨e, a₁, w₁, hq, harr⟩ := round x hx a w he hw b (.inLoop c :: k) cs
   cases e with
   | normal =>
    obtain ⟨y, hy, hlt, he', hw'⟩ := hq
    obtain ⟨e₂, a₂, w₂, hq₂, harr₂⟩ := ih (μ y) (hm ▸ hlt) y rfl hy a₁ w₁ he' hw' b k cs
    exact ⟨e₂, a₂, w₂, hq₂, .of_steps (Steps.trans harr (.one step_inLoop)) harr₂⟩
   | exit id => exact ⟨_, a₁, w₁, hq, .pass (x := .inLoop c) rfl (fun _ _ => .inl (by simp)) harr⟩
   | goto g => exact ⟨_, a₁, w₁, hq, .pass (x := .inLoop c) rfl (fun _ _ => .inl (by simp)) harr⟩
   | ret => exact ⟨_, a₁, w₁, hq, .pass (x := .inLoop c) rfl (fun _ _ => .inl (by simp)) harr⟩
   | panic ch => exact ⟨_, a₁, w₁, hq, .pass (x := .inLoop c) rfl (fun _ _ => .inl (by simp)) harr⟩
   | outgrown => exact ⟨_, a₁, w₁, hq, .pass (x := .inLoop c) rfl (fun _ _ => .inl (by simp)) harr⟩
 intro b k cs
 obtain ⟨e, a', w', hq, harr⟩ := key _ x0 rfl h0 a w (he.keep hk) (hw.ent (Ent.sep hl Ent.rfl)) b k cs
 exact ⟨e, a', w', hq, .of_steps (.one step_loop) harr⟩
theorem vc_again {α : Type} {ρs : α → List (Nat × Value)} {ls : α → List HP} {μ : α → Nat} {ok : α → Prop} {x : α} (y : α) (hy : ok y) (hlt : μ y < μ x) (hk : keeps ρ (ρs y)) (hl : Ent (seps l) (seps (ls y))) :
  VC ι F n (fun a w => ∃ y, ok y ∧ μ y < μ x ∧ Env n (ρs y) a ∧ Holds ι w (sep (seps (ls y)) F)) ρ l :=
 fun a w he hw => ⟨y, hy, hlt, he.keep hk, hw.ent (Ent.sep hl Ent.rfl)⟩
theorem vc_cut {c : Code} {α : Type} (ρs : α → List (Nat × Value)) (ls : α → List HP) (ok : α → Prop)
  (h : VC ι F n (c.wp P (Exit.then (fun a w => ∃ y, ok y ∧ Env n (ρs y) a ∧ Holds ι w (sep (seps (ls y)) F)) Q)) ρ l)
  {K : Act → World → Prop} (k : ∀ y, ok y → VC ι F n K (ρs y) (ls y)) : VC ι F n (c.wp P (Exit.then K Q)) ρ l := fun a w he hw =>
 wp_mono (h a w he hw) (fun e a w hq => by
  cases e with
  | normal => obtain ⟨y, hy, he', hw'⟩ := hq; exact k y hy a w he' hw'
  | _ => exact hq)
theorem vc_met {α : Type} {ρs : α → List (Nat × Value)} {ls : α → List HP} {ok : α → Prop} (y : α) (hy : ok y) (hk : keeps ρ (ρs y)) (hl : Ent (seps l) (seps (ls y))) :
  VC ι F n (fun a w => ∃ y, ok y ∧ Env n (ρs y) a ∧ Holds ι w (sep (seps (ls y)) F)) ρ l :=
 fun a w he hw => ⟨y, hy, he.keep hk, hw.ent (Ent.sep hl Ent.rfl)⟩
theorem vc_region {id : Nat} {os : List Oper} (h : VC ι F n (wpList P os.toArray Q os) ρ l) : VC ι F n ((Code.region id os.toArray false).wp P Q) ρ l :=
 fun a w he hw => wp_region_lit (h a w he hw)
theorem vc_nil (h : VC ι F n (Q .normal) ρ l) : VC ι F n (wpList P all Q []) ρ l := fun a w he hw => wpList_nil (h a w he hw)
def putO (d : Option Nat) (v : Value) (ρ : List (Nat × Value)) : List (Nat × Value) :=
 match d with | some d => (d, v) :: ρ | none => ρ
def okO (n : Nat) : Option Nat → Bool
 | some d => Nat.blt d n
 | none => true
theorem Env.putO {a : Act} (h : Env n ρ a) (d : Option Nat) (hd : okO n d = true) (v : Value) : Env n (Eng.putO d v ρ) (a.put d v) := by
 cases d with
 | none => exact h
 | some d => exact h.put d hd v
theorem vc_yield {o : Oper} {g : Option (Nat × Bool)} (hg : o.guard = none) (hd : okO n o.dst = true) (v : Value)
  (hrun : ∀ a w, Env n ρ a → Holds ι w (sep (seps l) F) → ∃ k, (execOp a.eval o).run P w = .ok (.value v) { w with drawn := k })
  (h : VC ι F n (wpList P all Q rest) (putO o.dst v ρ) l) : VC ι F n (wpList P all Q (o :: rest)) ρ l := fun a w he hw =>
 wpList_plain hg fun K hK => by
  obtain ⟨k, e⟩ := hrun a w he hw
  unfold Oper.wp
  rw [e]
  exact hK _ _ (h _ _ (he.putO _ hd _) (hw.drew k))
def Yld (P : Program) (ι : Io) (F : HP) (n : Nat) (ρ : List (Nat × Value)) (l : List HP) (o : Oper) (v : Value) : Prop :=
 ∀ a w, Env n ρ a → Holds ι w (sep (seps l) F) → (execOp a.eval o).run P w = .ok (.value v) w
theorem vc_y {d : Nat} {op : Op} {ty : TypeId} {pos : String} {aft : Array Edge} {v : Value} (hy : Yld P ι F n ρ l ⟨some d, op, ty, pos, aft, none⟩ v) (hd : Nat.blt d n = true)
  (h : VC ι F n (wpList P all Q rest) ((d, v) :: ρ) l) : VC ι F n (wpList P all Q (⟨some d, op, ty, pos, aft, none⟩ :: rest)) ρ l :=
 vc_yield (g := none) (o := ⟨some d, op, ty, pos, aft, none⟩) rfl hd v (fun a w he hw => ⟨w.drawn, hy a w he hw⟩) h
theorem vc_guardT {d : Option Nat} {op : Op} {ty : TypeId} {pos : String} {aft : Array Edge} {j : Nat} {b : Bool} (t : Nat) (hj : (all[j]?).bind (·.dst) = some t) (hb : lk ρ t = some (.bool b))
  (h : VC ι F n (wpList P all Q (⟨d, op, ty, pos, aft, none⟩ :: rest)) ρ l) : VC ι F n (wpList P all Q (⟨d, op, ty, pos, aft, some (j, b)⟩ :: rest)) ρ l := fun a w he hw => by
 have h1 := h a w he hw
 have hy : yielded all a.tmps j = some b := by
  unfold yielded
  rw [hj]
  simp [he.val t _ hb]
 unfold wpList at h1 ⊢
 simp only [Region.wanted, hy, beq_self_eq_true, if_true] at h1 ⊢
 exact h1
theorem vc_guardF {d : Nat} {op : Op} {ty : TypeId} {pos : String} {aft : Array Edge} {j : Nat} {b b' : Bool} (t : Nat) (hj : (all[j]?).bind (·.dst) = some t) (hb : lk ρ t = some (.bool b')) (hne : (b' == b) = false) (hd : Nat.blt d n = true)
  (h : VC ι F n (wpList P all Q rest) ((d, undef) :: ρ) l) : VC ι F n (wpList P all Q (⟨some d, op, ty, pos, aft, some (j, b)⟩ :: rest)) ρ l := fun a w he hw => by
 have hy : yielded all a.tmps j = some b' := by
  unfold yielded
  rw [hj]
  simp [he.val t _ hb]
 unfold wpList
 have : (some b' == some b) = false := by simpa using hne
 simp only [Region.wanted, hy, this, Bool.false_eq_true, if_false]
 exact h _ _ (he.put d hd _) hw
theorem vc_guardU {d : Nat} {op : Op} {ty : TypeId} {pos : String} {aft : Array Edge} {j : Nat} {b : Bool} (t : Nat) (hj : (all[j]?).bind (·.dst) = some t) (hb : lk ρ t = some undef) (hd : Nat.blt d n = true)
  (h : VC ι F n (wpList P all Q rest) ((d, undef) :: ρ) l) : VC ι F n (wpList P all Q (⟨some d, op, ty, pos, aft, some (j, b)⟩ :: rest)) ρ l := fun a w he hw => by
 have hy : yielded all a.tmps j = none := by
  unfold yielded
  rw [hj]
  simp [he.val t _ hb, undef]
 unfold wpList
 simp only [Region.wanted, hy]
 exact h _ _ (he.put d hd _) hw
theorem vc_split (t : Nat) {b : Bool} (hb : lk ρ t = some (.bool b)) (ht : b = true → VC ι F n K ((t, .bool true) :: ρ) l) (hf : b = false → VC ι F n K ((t, .bool false) :: ρ) l) : VC ι F n K ρ l := fun a w he hw => by
 have aux : ∀ c : Bool, b = c → Env n ((t, .bool c) :: ρ) a := fun c e => ⟨he.defers, he.size, fun t' v' hv => by
  simp only [lk] at hv
  cases hb' : Nat.beq t t' with
  | true => rw [hb'] at hv; have := Nat.eq_of_beq_eq_true hb'; subst this; simp at hv; subst hv; rw [← e]; exact he.val _ _ hb
  | false => rw [hb'] at hv; exact he.val _ _ hv⟩
 cases b with
 | true => exact ht rfl a w (aux true rfl) hw
 | false => exact hf rfl a w (aux false rfl) hw
end
end Go.Eng
namespace Go.Eng
def intOp : BinOp → IntKind → Int → Int → Option Value
 | .add, k, a, b => some (.int k (k.wrap (a + b)))
 | .sub, k, a, b => some (.int k (k.wrap (a - b)))
 | .mul, k, a, b => some (.int k (k.wrap (a * b)))
 | .eql, _, a, b => some (.bool (decide (a = b)))
 | .neq, _, a, b => some (.bool (!decide (a = b)))
 | .lss, _, a, b => some (.bool (decide (a < b)))
 | .leq, _, a, b => some (.bool (decide (a ≤ b)))
 | .gtr, _, a, b => some (.bool (decide (b < a)))
 | .geq, _, a, b => some (.bool (decide (b ≤ a)))
 | _, _, _, _ => none
def sLt (a b : ByteArray) : Bool := Op.bytesLess a.toList b.toList
def sEq (a b : ByteArray) : Bool := a.toList == b.toList
def strOp : BinOp → ByteArray → ByteArray → Option Value
 | .eql, a, b => some (.bool (sEq a b))
 | .neq, a, b => some (.bool (!sEq a b))
 | .lss, a, b => some (.bool (sLt a b))
 | .leq, a, b => some (.bool (sLt a b || sEq a b))
 | .gtr, a, b => some (.bool (!(sLt a b || sEq a b)))
 | .geq, a, b => some (.bool (!sLt a b))
 | _, _, _ => none
def binV (op : BinOp) : Value → Value → Option Value
 | .int k a, .int k' b => if k = k' then intOp op k a b else none
 | .string a, .string b => strOp op a b
 | _, _ => none
def pureOp (ρ : List (Nat × Value)) : Op → Option Value
 | .move x => ev ρ x
 | .assign x => ev ρ x
 | .pick c a b => match ev ρ c with
  | some (.bool true) => ev ρ a
  | some (.bool false) => ev ρ b
  | _ => none
 | .nilCheck x => match ev ρ x with
  | some (.pointer (some a)) => some (.pointer (some a))
  | some (.func (.func f) a b) => some (.func (.func f) a b)
  | _ => none
 | .unOp .not _ x => match ev ρ x with
  | some (.bool b) => some (.bool !b)
  | _ => none
 | .extract x i => match ev ρ x with
  | some (.tuple vs) => nth vs.toList i
  | _ => none
 | .binOp op _ x y _ => match ev ρ x with
  | some a => match ev ρ y with
   | some b => binV op a b
   | none => none
  | none => none
 | _ => none
theorem nth_eq {α : Type} (l : List α) (i : Nat) : nth l i = l[i]? := by
 induction l generalizing i with
 | nil => simp [nth]
 | cons a l ih => cases i <;> simp [nth, ih]
section
variable {P : Program} {ι : Io} {F : HP} {n : Nat} {ρ : List (Nat × Value)} {l : List HP} {K : Act → World → Prop} {Q : Exit → Act → World → Prop} {all : Array Oper} {rest : List Oper}
variable {d : Nat} {ty : TypeId} {pos : String} {aft : Array Edge} {dst : Option Nat} {gd : Option (Nat × Bool)}
theorem intOp_run {op : BinOp} {k : IntKind} {a b : Int} {v : Value} (h : intOp op k a b = some v) (t : TypeId) (x y : Operand) (w : World) :
  (do eqGuard op t x y (.int k a) (.int k b); binOp op t (.int k a) (.int k b)).run P w = .ok v w := by
 cases op <;> simp [intOp] at h <;> subst h <;> simp [eqGuard, binOp, Op.intArith, Op.intCmp, bne] <;> rfl
theorem strOp_run {op : BinOp} {a b : ByteArray} {v : Value} (h : strOp op a b = some v) (t : TypeId) (x y : Operand) (w : World) :
  (do eqGuard op t x y (.string a) (.string b); binOp op t (.string a) (.string b)).run P w = .ok v w := by
 cases op <;> simp [strOp] at h <;> subst h <;> simp [eqGuard, binOp, Op.stringOp, sLt, sEq]
theorem pureOp_run {a : Act} (he : Env n ρ a) {op : Op} {v : Value} (h : pureOp ρ op = some v) (dst : Option Nat) (g : Option (Nat × Bool)) (w : World) :
  (execOp a.eval ⟨dst, op, ty, pos, aft, g⟩).run P w = .ok (.value v) w := by
 cases op with
 | move x => simp only [pureOp] at h; simp [execOp, he.eval h]
 | assign x => simp only [pureOp] at h; simp [execOp, he.eval h]
 | pick c x y =>
  simp only [pureOp] at h
  cases hc : ev ρ c with
  | none => simp [hc] at h
  | some u =>
   rw [hc] at h
   cases u with
   | bool b => cases b <;> simp at h <;> simp [execOp, he.eval hc, he.eval h, asBool]
   | _ => simp at h
 | nilCheck x =>
  simp only [pureOp] at h
  cases hc : ev ρ x with
  | none => simp [hc] at h
  | some u =>
   rw [hc] at h
   cases u with
   | pointer p => cases p with
    | none => simp at h
    | some p => simp at h; subst h; simp [execOp, he.eval hc]
   | func f p q => cases f <;> simp at h; subst h; simp [execOp, he.eval hc]
   | _ => simp at h
 | unOp op t x =>
  cases op <;> simp only [pureOp] at h <;> try (cases h)
  cases hc : ev ρ x with
  | none => simp [hc] at h
  | some u =>
   rw [hc] at h
   cases u <;> simp at h
   subst h; simp [execOp, he.eval hc, Op.unary]
 | extract x i =>
  simp only [pureOp] at h
  cases hc : ev ρ x with
  | none => simp [hc] at h
  | some u =>
   rw [hc] at h
   cases u <;> simp at h
   rename_i vs
   rw [nth_eq] at h
   simp at h
   simp [execOp, he.eval hc, Instr.extract, h]
 | binOp op t x y t' =>
  simp only [pureOp] at h
  cases hx : ev ρ x with
  | none => simp [hx] at h
  | some u =>
   cases hy : ev ρ y with
   | none => simp [hx, hy] at h
   | some u' =>
    rw [hx, hy] at h
    simp only [execOp, he.eval hx, he.eval hy]
    cases u <;> cases u' <;> simp only [binV] at h <;> try (cases h; done)
    ·rename_i k a k' b
     split at h
     ·rename_i hk; subst hk
      have := intOp_run (P := P) h t x y w
      simp only [Sem.run_bind] at this ⊢
      rw [this]; rfl
     ·cases h
    ·rename_i a b
     have := strOp_run (P := P) h t x y w
     simp only [Sem.run_bind] at this ⊢
     rw [this]; rfl
 | _ => simp [pureOp] at h
theorem y_p {op : Op} (v : Value) (hp : pureOp ρ op = some v) : Yld P ι F n ρ l ⟨dst, op, ty, pos, aft, gd⟩ v := fun a w he _ => pureOp_run he hp _ _ _
theorem y_pe {op : Op} {u : Value} (v : Value) (hp : pureOp ρ op = some u) (hv : u = v) : Yld P ι F n ρ l ⟨dst, op, ty, pos, aft, gd⟩ v := y_p v (hv ▸ hp)
theorem vp {d : Nat} {op : Op} {ty : TypeId} {pos : String} {aft : Array Edge} {v : Value} (h : VC ι F n (wpList P all Q rest) ((d, v) :: ρ) l) (hp : pureOp ρ op = some v := by exact rfl) (hd : Nat.blt d n = true := by exact rfl) :
  VC ι F n (wpList P all Q (⟨some d, op, ty, pos, aft, none⟩ :: rest)) ρ l := vc_y (y_p _ hp) hd h
theorem vc_condP {c : Operand} {x y : Code} {p : Prop} [Decidable p] (hc : ev ρ c = some (.bool (decide p))) (ht : p → VC ι F n (x.wp P Q) ρ l) (hf : ¬ p → VC ι F n (y.wp P Q) ρ l) :
  VC ι F n ((Code.cond c x y).wp P Q) ρ l := vc_cond hc (fun e => ht (of_decide_eq_true e)) (fun e => hf (of_decide_eq_false e))
theorem vc_condN {c : Operand} {x y : Code} {p : Prop} [Decidable p] (hc : ev ρ c = some (.bool (!decide p))) (ht : ¬ p → VC ι F n (x.wp P Q) ρ l) (hf : p → VC ι F n (y.wp P Q) ρ l) :
  VC ι F n ((Code.cond c x y).wp P Q) ρ l := vc_cond hc (fun e => ht (by simpa using e)) (fun e => hf (by simpa using e))
theorem vc_splitP (t : Nat) {p : Prop} [Decidable p] (hb : lk ρ t = some (.bool (decide p))) (ht : p → VC ι F n K ((t, .bool true) :: ρ) l) (hf : ¬ p → VC ι F n K ((t, .bool false) :: ρ) l) : VC ι F n K ρ l :=
 vc_split t hb (fun e => ht (of_decide_eq_true e)) (fun e => hf (of_decide_eq_false e))
theorem vc_splitN (t : Nat) {p : Prop} [Decidable p] (hb : lk ρ t = some (.bool (!decide p))) (ht : ¬ p → VC ι F n K ((t, .bool true) :: ρ) l) (hf : p → VC ι F n K ((t, .bool false) :: ρ) l) : VC ι F n K ρ l :=
 vc_split t hb (fun e => ht (by simpa using e)) (fun e => hf (by simpa using e))
theorem wrap64 {x : Int} (h1 : -9223372036854775808 ≤ x) (h2 : x ≤ 9223372036854775807) : IntKind.i64.wrap x = x := by
 simp only [IntKind.wrap, IntKind.bits, IntKind.signed]
 simp
 omega
theorem wrapNadd {a : Nat} (h : a + 1 ≤ 9223372036854775807) : IntKind.i64.wrap ((a : Int) + 1) = ((a + 1 : Nat) : Int) := by
 rw [wrap64 (by omega) (by omega)]; omega
theorem wrapNsub {a : Nat} (h : 1 ≤ a ∧ a ≤ 9223372036854775807) : IntKind.i64.wrap ((a : Int) - 1) = ((a - 1 : Nat) : Int) := by
 rw [wrap64 (by omega) (by omega)]; omega
theorem wrapU64 {x : Int} (h1 : 0 ≤ x) (h2 : x ≤ 18446744073709551615) : IntKind.u64.wrap x = x := by
 simp only [IntKind.wrap, IntKind.bits, IntKind.signed]
 simp
 omega
theorem wrapU8 {x : Int} (h1 : 0 ≤ x) (h2 : x ≤ 255) : IntKind.u8.wrap x = x := by
 simp only [IntKind.wrap, IntKind.bits, IntKind.signed]
 simp
 omega
theorem y_arith {op : BinOp} {k : IntKind} {x y : Operand} {t t' : TypeId} {z : Int} (c : Int) (hp : pureOp ρ (.binOp op t x y t') = some (.int k z)) (hz : z = c) : Yld P ι F n ρ l ⟨dst, .binOp op t x y t', ty, pos, aft, gd⟩ (.int k c) :=
 y_pe (.int k c) hp (by rw [hz])
theorem y_quo {k : IntKind} {x y : Operand} {t t' : TypeId} {a b : Int} (c : Int) (hx : ev ρ x = some (.int k a)) (hy : ev ρ y = some (.int k b)) (hb : b ≠ 0) (hz : k.wrap (a.tdiv b) = c) : Yld P ι F n ρ l ⟨dst, .binOp .quo t x y t', ty, pos, aft, gd⟩ (.int k c) := fun a' w he _ => by simp [execOp, he.eval hx, he.eval hy, eqGuard, binOp, Op.intDiv, hb, hz]
theorem y_rem {k : IntKind} {x y : Operand} {t t' : TypeId} {a b : Int} (c : Int) (hx : ev ρ x = some (.int k a)) (hy : ev ρ y = some (.int k b)) (hb : b ≠ 0) (hz : a.tmod b = c) : Yld P ι F n ρ l ⟨dst, .binOp .rem t x y t', ty, pos, aft, gd⟩ (.int k c) := fun a' w he _ => by simp [execOp, he.eval hx, he.eval hy, eqGuard, binOp, Op.intDiv, hb, hz]
theorem y_shr {k k' : IntKind} {x y : Operand} {t t' : TypeId} {a b : Int} (c : Int) (hx : ev ρ x = some (.int k a)) (hy : ev ρ y = some (.int k' b)) (hb : 0 ≤ b) (hz : a.fdiv (2 ^ (min b.toNat k.bits)) = c) : Yld P ι F n ρ l ⟨dst, .binOp .shr t x y t', ty, pos, aft, gd⟩ (.int k c) := fun a' w he _ => by
   have : ¬ b < 0 := by omega
   simp [execOp, he.eval hx, he.eval hy, eqGuard, binOp, Op.shift, this, hz]
theorem y_shl {k k' : IntKind} {x y : Operand} {t t' : TypeId} {a b : Int} (c : Int) (hx : ev ρ x = some (.int k a)) (hy : ev ρ y = some (.int k' b)) (hb : 0 ≤ b) (hz : k.wrap (a * 2 ^ (min b.toNat k.bits)) = c) : Yld P ι F n ρ l ⟨dst, .binOp .shl t x y t', ty, pos, aft, gd⟩ (.int k c) := fun a' w he _ => by
   have : ¬ b < 0 := by omega
   simp [execOp, he.eval hx, he.eval hy, eqGuard, binOp, Op.shift, this, hz]
theorem y_and {k : IntKind} {x y : Operand} {t t' : TypeId} {a b : Int} (c : Int) (hx : ev ρ x = some (.int k a)) (hy : ev ρ y = some (.int k b)) (hz : k.wrap ((BitVec.ofInt k.bits a &&& BitVec.ofInt k.bits b).toNat) = c) : Yld P ι F n ρ l ⟨dst, .binOp .and t x y t', ty, pos, aft, gd⟩ (.int k c) := fun a' w he _ => by subst hz; simp only [execOp, he.eval hx, he.eval hy, eqGuard, binOp, Op.intBits, ne_eq, not_true_eq_false, if_false]; rfl
theorem y_cat {x y : Operand} {t t' : TypeId} {a b : ByteArray} (hx : ev ρ x = some (.string a)) (hy : ev ρ y = some (.string b)) (hb : a.size + b.size ≤ 9223372036854775807) : Yld P ι F n ρ l ⟨dst, .binOp .add t x y t', ty, pos, aft, gd⟩ (.string (a ++ b)) := fun a' w he _ => by
   have : ¬ ((a.size + b.size : Nat) : Int) > IntKind.i64.max := by simp [IntKind.max, IntKind.signed, IntKind.bits]; omega
   simp only [execOp, he.eval hx, he.eval hy, eqGuard, binOp, Op.stringOp, this]
   simp
theorem y_bin {op : BinOp} {x y : Operand} {t t' : TypeId} {u v : Value} (r : Value) (hx : ev ρ x = some u) (hy : ev ρ y = some v) (hg : ∀ w, (eqGuard op t x y u v).run P w = .ok () w) (hr : ∀ w, (binOp op t u v).run P w = .ok r w) : Yld P ι F n ρ l ⟨dst, .binOp op t x y t', ty, pos, aft, gd⟩ (r) := fun a' w he _ => by simp only [execOp, he.eval hx, he.eval hy, Sem.run_bind, hg, hr, Result.andThen_ok]; rfl
theorem eqGuard_bool (op : BinOp) (t : TypeId) (x y : Operand) (a b : Bool) (w : World) : (eqGuard op t x y (.bool a) (.bool b)).run P w = .ok () w := by
 cases op <;> rfl
theorem eqGuard_ptr (op : BinOp) (t : TypeId) (x y : Operand) (a b : Option Addr) (w : World) : (eqGuard op t x y (.pointer a) (.pointer b)).run P w = .ok () w := by
 cases op <;> rfl
theorem eqGuard_slice (op : BinOp) (t : TypeId) (x y : Operand) (a b : Option Addr) (m n m' n' : Nat) (w : World) : (eqGuard op t x y (.slice a m n) (.slice b m' n')).run P w = .ok () w := by
 cases op <;> rfl
theorem y_eqB {x y : Operand} {t t' : TypeId} {a b : Bool} (ht : P.underlying t = some .bool) (hx : ev ρ x = some (.bool a)) (hy : ev ρ y = some (.bool b)) : Yld P ι F n ρ l ⟨dst, .binOp .eql t x y t', ty, pos, aft, gd⟩ (.bool (a == b)) :=
 y_bin _ hx hy (eqGuard_bool _ _ _ _ _ _) (fun w => run_eql_bool w t a b ht)
theorem y_neB {x y : Operand} {t t' : TypeId} {a b : Bool} (ht : P.underlying t = some .bool) (hx : ev ρ x = some (.bool a)) (hy : ev ρ y = some (.bool b)) : Yld P ι F n ρ l ⟨dst, .binOp .neq t x y t', ty, pos, aft, gd⟩ (.bool (!(a == b))) :=
 y_bin _ hx hy (eqGuard_bool _ _ _ _ _ _) (fun w => run_neq_bool w t a b ht)
theorem y_eqNil {x y : Operand} {t t' : TypeId} {p : Option Addr} (ht : P.underlying t = some (.pointer (P.pointee t))) (hx : ev ρ x = some (.pointer p)) (hy : ev ρ y = some (.pointer none)) : Yld P ι F n ρ l ⟨dst, .binOp .eql t x y t', ty, pos, aft, gd⟩ (.bool p.isNone) :=
 y_bin _ hx hy (eqGuard_ptr _ _ _ _ _ _) (fun w => run_eql_pointer_nil w t p ht)
theorem y_neNil {x y : Operand} {t t' : TypeId} {p : Option Addr} (ht : P.underlying t = some (.pointer (P.pointee t))) (hx : ev ρ x = some (.pointer p)) (hy : ev ρ y = some (.pointer none)) : Yld P ι F n ρ l ⟨dst, .binOp .neq t x y t', ty, pos, aft, gd⟩ (.bool (!p.isNone)) :=
 y_bin _ hx hy (eqGuard_ptr _ _ _ _ _ _) (fun w => run_neq_pointer_nil w t p ht)
theorem y_sliceNil {x y : Operand} {t t' e : TypeId} {p : Option Addr} {m c : Nat} (ht : P.underlying t = some (.slice e)) (hx : ev ρ x = some (.slice p m c)) (hy : ev ρ y = some (.slice none 0 0)) : Yld P ι F n ρ l ⟨dst, .binOp .eql t x y t', ty, pos, aft, gd⟩ (.bool p.isNone) :=
 y_bin _ hx hy (eqGuard_slice _ _ _ _ _ _ _ _ _ _) (fun w => Lib.run_eql_slice_nil w t e p m c 0 0 ht)
theorem y_eqS {x y : Operand} {t t' : TypeId} {xs ys : Array Value} {r : Bool} (hm : P.eqGuardType P.depth t = false) (he : ∀ w, (Op.equalIn 10000 t (.agg xs) (.agg ys)).run P w = .ok r w) (hx : ev ρ x = some (.agg xs)) (hy : ev ρ y = some (.agg ys)) : Yld P ι F n ρ l ⟨dst, .binOp .eql t x y t', ty, pos, aft, gd⟩ (.bool r) :=
 y_bin _ hx hy (fun w => run_eqGuard_agg w .eql t x y xs ys hm) (fun w => by rw [run_eql_struct, he]; rfl)
theorem y_neS {x y : Operand} {t t' : TypeId} {xs ys : Array Value} {r : Bool} (hm : P.eqGuardType P.depth t = false) (he : ∀ w, (Op.equalIn 10000 t (.agg xs) (.agg ys)).run P w = .ok r w) (hx : ev ρ x = some (.agg xs)) (hy : ev ρ y = some (.agg ys)) : Yld P ι F n ρ l ⟨dst, .binOp .neq t x y t', ty, pos, aft, gd⟩ (.bool (!r)) :=
 y_bin _ hx hy (fun w => run_eqGuard_agg w .neq t x y xs ys hm) (fun w => by rw [run_neq_struct, he]; rfl)
theorem y_conv {x : Operand} {s t : TypeId} {k k' : IntKind} {a : Int} {ds : TypeDesc} (c : Int) (hs : P.underlying s = some ds) (ht : P.underlying t = some (.int k)) (hx : ev ρ x = some (.int k' a)) (hz : k.wrap a = c) : Yld P ι F n ρ l ⟨dst, .convert s t x, ty, pos, aft, gd⟩ (.int k c) :=
 fun a' w he _ => by simp [execOp, he.eval hx, convert, run_underlying hs, run_underlying ht, Conv.intToInt, hz]
theorem y_strIndex {x y : Operand} {t : TypeId} {s : ByteArray} {k : IntKind} {i : Int} (j : Nat) (hj : i = (j : Int)) (hlt : j < s.size) (ht : P.underlying t = some .string) (hx : ev ρ x = some (.string s)) (hy : ev ρ y = some (.int k i)) : Yld P ι F n ρ l ⟨dst, .index t x y, ty, pos, aft, gd⟩ (.int .u8 (s[j]'hlt).toNat) := fun a' w he _ => by
   subst hj
   simp [execOp, he.eval hx, he.eval hy, Instr.index, asIntOf, run_underlying ht, hlt]
theorem y_strLen {x : Operand} {t : TypeId} {s : ByteArray} (ht : P.underlying t = some .string) (hx : ev ρ x = some (.string s)) : Yld P ι F n ρ l ⟨dst, .call { callee := .builtin .len, args := #[x], argTypes := #[t] }, ty, pos, aft, gd⟩ (.int .i64 (s.size : Int)) := fun a' w he _ => by simp [execOp, resolve, invoke, builtin, Builtin.len_, he.eval hx, run_underlying ht, goInt]
theorem y_max2 {x y : Operand} {ts : Array TypeId} {k : IntKind} {a b : Int} (c : Int) (hx : ev ρ x = some (.int k a)) (hy : ev ρ y = some (.int k b)) (hz : (if b > a then b else a) = c) : Yld P ι F n ρ l ⟨dst, .call { callee := .builtin .max, args := #[x, y], argTypes := ts }, ty, pos, aft, gd⟩ (.int k c) := fun a' w he _ => by subst hz; simp [execOp, resolve, invoke, builtin, Builtin.max_, Builtin.max2, he.eval hx, he.eval hy]
theorem y_min2 {x y : Operand} {ts : Array TypeId} {k : IntKind} {a b : Int} (c : Int) (hx : ev ρ x = some (.int k a)) (hy : ev ρ y = some (.int k b)) (hz : (if b < a then b else a) = c) : Yld P ι F n ρ l ⟨dst, .call { callee := .builtin .min, args := #[x, y], argTypes := ts }, ty, pos, aft, gd⟩ (.int k c) := fun a' w he _ => by subst hz; simp [execOp, resolve, invoke, builtin, Builtin.min_, Builtin.min2, he.eval hx, he.eval hy]
theorem y_makeFunc {f : FuncId} {xs ys : Array Operand} (us vs : List Value) (hx : xs.toList.map (ev ρ) = us.map some) (hy : ys.toList.map (ev ρ) = vs.map some) : Yld P ι F n ρ l ⟨dst, .makeFunc (.func f) xs ys, ty, pos, aft, gd⟩ (.func (.func f) us.toArray vs.toArray) := fun a' w he _ => by
   have aux : ∀ (xs : List Operand) (us : List Value), xs.map (ev ρ) = us.map some → xs.map a'.eval = us := by
    intro xs
    induction xs with
    | nil => intro us h; cases us <;> simp_all
    | cons x xs ih => intro us h; cases us with
     | nil => simp at h
     | cons u us => simp at h; simp [he.eval h.1, ih us h.2]
   have e1 : xs.map a'.eval = us.toArray := by apply Array.ext'; simp [aux _ _ hx]
   have e2 : ys.map a'.eval = vs.toArray := by apply Array.ext'; simp [aux _ _ hy]
   simp [execOp, Instr.makeFunc, e1, e2]
end
end Go.Eng
namespace Go.Eng
structure Enc (α : Type) where
  ty : TypeId
  sz : Nat
  f : α → List Value
  len : ∀ x, (f x).length = sz
  one : ∀ x, ∀ c ∈ f x, c.oneCell' = true
  pos : 0 < sz
def flat {α : Type} (E : Enc α) (xs : List α) : List Value := xs.flatMap E.f
section
variable {α : Type} (E : Enc α)
theorem flat_nil : flat E [] = [] := rfl
theorem flat_cons (x : α) (xs : List α) : flat E (x :: xs) = E.f x ++ flat E xs := rfl
theorem flat_append (xs ys : List α) : flat E (xs ++ ys) = flat E xs ++ flat E ys := by simp [flat]
theorem flat_length (xs : List α) : (flat E xs).length = xs.length * E.sz := by
  induction xs with
  | nil => simp [flat]
  | cons x xs ih => rw [flat_cons, List.length_append, ih, E.len, List.length_cons, Nat.add_mul]; omega
theorem flat_one (xs : List α) : ∀ c ∈ flat E xs, c.oneCell' = true := by
  intro c hc
  obtain ⟨x, _, h⟩ := List.mem_flatMap.1 hc
  exact E.one x c h
theorem flat_at {xs : List α} {j : Nat} {x : α} (h : xs[j]? = some x) {k : Nat} {c : Value} (hc : (E.f x)[k]? = some c) : (flat E xs)[j * E.sz + k]? = some c := by
  induction xs generalizing j with
  | nil => simp at h
  | cons y ys ih =>
    rw [flat_cons]
    cases j with
    | zero =>
      simp at h; subst h
      rw [Nat.zero_mul, Nat.zero_add, List.getElem?_append_left (List.getElem?_eq_some_iff.1 hc).1]; exact hc
    | succ j =>
      have hk : k < E.sz := by have := (List.getElem?_eq_some_iff.1 hc).1; rwa [E.len] at this
      rw [List.getElem?_append_right (by rw [E.len, Nat.add_mul]; omega), E.len]
      have : (j + 1) * E.sz + k - E.sz = j * E.sz + k := by rw [Nat.add_mul]; omega
      rw [this]; exact ih (by simpa using h)
theorem flat_take (xs : List α) (k : Nat) : flat E (xs.take k) = (flat E xs).take (k * E.sz) := by
  induction xs generalizing k with
  | nil => simp [flat]
  | cons x xs ih =>
    cases k with
    | zero => simp [flat]
    | succ k =>
      rw [List.take_succ_cons, flat_cons, flat_cons, ih]
      have : (k + 1) * E.sz = (E.f x).length + k * E.sz := by rw [E.len, Nat.add_mul]; omega
      rw [this, List.take_length_add_append]
theorem flat_drop (xs : List α) (k : Nat) : flat E (xs.drop k) = (flat E xs).drop (k * E.sz) := by
  induction xs generalizing k with
  | nil => simp [flat]
  | cons x xs ih =>
    cases k with
    | zero => simp [flat]
    | succ k =>
      rw [List.drop_succ_cons, flat_cons, ih]
      have : (k + 1) * E.sz = (E.f x).length + k * E.sz := by rw [E.len, Nat.add_mul]; omega
      rw [this, List.drop_length_add_append]
end
structure SH where
  a : Option Addr
  len : Nat
  cap : Nat
def SH.v (h : SH) : Value := .slice h.a h.len h.cap
def SH.blk (h : SH) : Nat := match h.a with | some a => a.block | none => 0
def SH.off (h : SH) : Nat := match h.a with | some a => a.off | none => 0
def nilS : SH := ⟨none, 0, 0⟩
def eAd (h : SH) (sz j k : Nat) : Addr := ⟨h.blk, h.off + j * sz + k, none⟩
def Sl {α : Type} (E : Enc α) (h : SH) (xs : List α) : HP :=
  ⟨fun r x => h.len = xs.length ∧ ((xs = [] ∧ h.cap = 0) ∨ ∃ b pre post, h.a = some ⟨b, pre.length, none⟩ ∧ xs.length ≤ h.cap ∧ (h.cap - xs.length) * E.sz ≤ post.length ∧ (Pts b (pre ++ flat E xs ++ post) E.ty).P r x),
   fun hr hx ⟨h1, h2⟩ => ⟨h1, h2.imp id fun ⟨b, pre, post, a1, a2, a3, a4⟩ => ⟨b, pre, post, a1, a2, a3, (Pts b _ E.ty).mono hr hx a4⟩⟩⟩
def RoSl {α : Type} (E : Enc α) (h : SH) (xs : List α) : HP :=
  ⟨fun r x => h.len = xs.length ∧ ((xs = [] ∧ h.cap = 0) ∨ ∃ b pre post ty, h.a = some ⟨b, pre.length, none⟩ ∧ xs.length ≤ h.cap ∧ (Ro b (pre ++ flat E xs ++ post) ty).P r x),
   fun hr hx ⟨h1, h2⟩ => ⟨h1, h2.imp id fun ⟨b, pre, post, ty, a1, a2, a4⟩ => ⟨b, pre, post, ty, a1, a2, (Ro b _ ty).mono hr hx a4⟩⟩⟩
structure Rd {α : Type} (E : Enc α) (h : SH) (xs : List α) (w : World) : Prop where
  len : h.len = xs.length
  cap : xs.length ≤ h.cap
  adr : h.a = some ⟨h.blk, h.off, none⟩ ∨ (xs = [] ∧ h.cap = 0)
  cell : ∀ m c, (flat E xs)[m]? = some c → w.cell? ⟨h.blk, h.off + m, none⟩ = some c
def Vis (A : HP) (φ : World → Prop) : Prop := ∀ ι w, Holds ι w A → φ w
theorem Vis.imp {A : HP} {φ ψ : World → Prop} (h : Vis A φ) (i : ∀ w, φ w → ψ w) : Vis A ψ := fun ι w hh => i w (h ι w hh)
theorem Vis.ent {A B : HP} {φ : World → Prop} (h : Vis B φ) (e : Ent A B) : Vis A φ := fun ι w hh => h ι w (hh.ent e)
theorem cell_mid (w : World) (b : Nat) (pre mid post : List Value) (t : TypeId) (fr : Nat × Nat) (hb : w.heap[b]? = some (.cells (pre ++ mid ++ post).toArray t fr)) (m : Nat) (c : Value) (h : mid[m]? = some c) :
    w.cell? ⟨b, pre.length + m, none⟩ = some c := by
  rw [cell_of_row w b _ _ t fr hb]
  have hl := (List.getElem?_eq_some_iff.1 h).1
  simp only [List.getElem?_toArray]
  rw [List.append_assoc, List.getElem?_append_right (by omega), Nat.add_sub_cancel_left, List.getElem?_append_left hl]
  exact h
section
variable {α : Type} {E : Enc α} {h : SH} {xs : List α}
theorem Sl.vis : Vis (Sl E h xs) (Rd E h xs) := by
  rintro ι w ⟨_, _, r, x, s, h1, h2⟩
  rcases h2 with ⟨rfl, h3⟩ | ⟨b, pre, post, h2, h3, h4, h5⟩
  · exact ⟨h1, by simp, .inr ⟨rfl, h3⟩, fun m c hc => by simp [flat] at hc⟩
  · refine ⟨h1, h3, .inl (by simp [SH.blk, SH.off, h2]), fun m c hc => ?_⟩
    simp only [SH.blk, SH.off, h2]
    exact cell_mid w b pre _ post _ _ (s.rw _ _ h5) m c hc
theorem RoSl.vis : Vis (RoSl E h xs) (Rd E h xs) := by
  rintro ι w ⟨_, _, r, x, s, h1, h2⟩
  rcases h2 with ⟨rfl, h3⟩ | ⟨b, pre, post, t, h2, h3, fr, h5⟩
  · exact ⟨h1, by simp, .inr ⟨rfl, h3⟩, fun m c hc => by simp [flat] at hc⟩
  · refine ⟨h1, h3, .inl (by simp [SH.blk, SH.off, h2]), fun m c hc => ?_⟩
    simp only [SH.blk, SH.off, h2]
    exact cell_mid w b pre _ post _ _ (s.ro _ _ h5) m c hc
theorem Sl.nil : Ent emp (Sl E nilS []) := fun r x _ => ⟨rfl, .inl ⟨rfl, rfl⟩⟩
theorem RoSl.nil : Ent emp (RoSl E nilS []) := fun r x _ => ⟨rfl, .inl ⟨rfl, rfl⟩⟩
theorem RoSl.dup : Ent (RoSl E h xs) (sep (RoSl E h xs) (RoSl E h xs)) := fun r x hp =>
  ⟨x, fun _ => none, fun _ => .inl ⟨rfl, rfl⟩, hp, by
    obtain ⟨h1, h2⟩ := hp
    exact ⟨h1, h2⟩⟩
theorem Sl.share : VS (Sl E h xs) (RoSl E h xs) := by
  rintro ι w F ⟨g1, g2, r, x, s, x1, x2, hj, ⟨h1, h2⟩, hf⟩
  rcases h2 with h2 | ⟨b, pre, post, a1, a2, a3, a4⟩
  · exact ⟨g1, g2, r, x, s, x1, x2, hj, ⟨h1, .inl h2⟩, hf⟩
  · obtain ⟨k1, k2, r', x', s', y1, y2, hj', hp, hf'⟩ := VS.share ι w F ⟨g1, g2, r, x, s, x1, x2, hj, a4, hf⟩
    exact ⟨k1, k2, r', x', s', y1, y2, hj', ⟨h1, .inr ⟨b, pre, post, E.ty, a1, a2, hp⟩⟩, hf'⟩
theorem Sl.mk1 (b : Nat) (xs : List α) (cap : Nat) (post : List Value) (hc : xs.length ≤ cap) (hp : (cap - xs.length) * E.sz ≤ post.length) : Ent (Pts b (flat E xs ++ post) E.ty) (Sl E ⟨some ⟨b, 0, none⟩, xs.length, cap⟩ xs) :=
  fun r x h => ⟨rfl, .inr ⟨b, [], post, rfl, hc, hp, by simpa using h⟩⟩
end
section
variable {P : Program} {ι : Io} {F : HP} {n : Nat} {ρ : List (Nat × Value)} {l : List HP} {K : Act → World → Prop} {Q : Exit → Act → World → Prop} {all : Array Oper} {rest : List Oper}
variable {d : Nat} {ty : TypeId} {pos : String} {aft : Array Edge} {dst : Option Nat} {gd : Option (Nat × Bool)}
theorem vc_see (i : Nat) {A : HP} (hA : nth l i = some A) {p : Prop} (hp : Vis A (fun _ => p)) (h : p → VC ι F n K ρ l) : VC ι F n K ρ l := vc_fact i hA hp h
structure TyOne (P : Program) (t : TypeId) : Prop where
  und : ∃ d, P.underlying t = some d ∧ (match d with | .struct _ | .array _ _ => true | _ => false) = false
  size : (P.info? t).map (·.size) = some 1
structure TyAgg (P : Program) (t : TypeId) (s : Nat) : Prop where
  und : ∃ d, P.underlying t = some d ∧ (match d with | .struct _ | .array _ _ => true | _ => false) = true
  size : (P.info? t).map (·.size) = some s
structure TySl (P : Program) (t e : TypeId) (s : Nat) : Prop where
  und : P.underlying t = some (.slice e)
  size : (P.info? e).map (·.size) = some s
theorem run_sizeOf {t : TypeId} {s : Nat} (h : (P.info? t).map (·.size) = some s) (w : World) : (sizeOf t).run P w = .ok s w := by
  cases hq : P.info? t with
  | none => simp [hq] at h
  | some i => simp [hq] at h; simp [sizeOf, typeInfo, hq, h]
theorem run_isAgg1 {t : TypeId} (h : TyOne P t) (w : World) : (isAgg t).run P w = .ok false w := by
  obtain ⟨d, h1, h2⟩ := h.und
  unfold isAgg
  rw [Sem.run_bind, run_underlying h1 w]
  cases d <;> simp_all
theorem run_isAggA {t : TypeId} {s : Nat} (h : TyAgg P t s) (w : World) : (isAgg t).run P w = .ok true w := by
  obtain ⟨d, h1, h2⟩ := h.und
  unfold isAgg
  rw [Sem.run_bind, run_underlying h1 w]
  cases d <;> simp_all
theorem run_loadVar1 {t : TypeId} (h : TyOne P t) {w : World} {a : Addr} {c : Value} (hc : w.cell? a = some c) : (loadVar t a).run P w = .ok c w := by
  simp [loadVar, run_isAgg1 h, load, Sem.run, hc]
theorem run_loadVarA {t : TypeId} {cs : List Value} (h : TyAgg P t cs.length) {w : World} {a : Addr} (hc : ∀ j c, cs[j]? = some c → w.cell? (a.add j) = some c) : (loadVar t a).run P w = .ok (.agg cs.toArray) w := by
  simp [loadVar, run_isAggA h, run_sizeOf h.size, run_loadCells_list w a cs hc]
theorem add_lit (b o k : Nat) : (⟨b, o, none⟩ : Addr).add k = ⟨b, o + k, none⟩ := by unfold Addr.add; split <;> simp_all
theorem y_load1 (i : Nat) {A : HP} (hA : nth l i = some A) {t : TypeId} (ht : TyOne P t) {x : Operand} {ad : Addr} {c : Value} (hx : ev ρ x = some (.pointer (some ad))) (hc : Vis A (fun w => w.cell? ad = some c)) : Yld P ι F n ρ l ⟨dst, .load t x, ty, pos, aft, gd⟩ (c) := fun a w he hw => by simp [execOp, he.eval hx, Instr.loadAt, Instr.sureAddr, run_loadVar1 ht (hc ι w (VC.chunk hw hA))]
theorem y_loadA (i : Nat) {A : HP} (hA : nth l i = some A) {t : TypeId} {cs : List Value} (ht : TyAgg P t cs.length) {x : Operand} {ad : Addr} (hx : ev ρ x = some (.pointer (some ad)))
    (hc : Vis A (fun w => ∀ j c, cs[j]? = some c → w.cell? (ad.add j) = some c)) : Yld P ι F n ρ l ⟨dst, .load t x, ty, pos, aft, gd⟩ (.agg cs.toArray) := fun a w he hw => by simp [execOp, he.eval hx, Instr.loadAt, Instr.sureAddr, run_loadVarA ht (hc ι w (VC.chunk hw hA))]
theorem Pts.vis {b : Nat} {cs : List Value} {t : TypeId} {k : Nat} {c : Value} (h : nth cs k = some c) : Vis (Pts b cs t) (fun w => w.cell? ⟨b, k, none⟩ = some c) := fun ι w hh => by
  show w.cell? ⟨b, k, none⟩ = some c
  rw [cell_of_row w b k _ t _ hh.pts]; rw [nth_eq] at h; simpa using h
theorem Pts.visA {b : Nat} {cs cs' : List Value} {t : TypeId} {k : Nat} (h : (cs.drop k).take cs'.length = cs') : Vis (Pts b cs t) (fun w => ∀ j c, cs'[j]? = some c → w.cell? ((⟨b, k, none⟩ : Addr).add j) = some c) := fun ι w hh j c hj => by
  rw [add_lit, cell_of_row w b _ _ t _ hh.pts]
  rw [← h] at hj
  simp only [List.getElem?_toArray]
  rw [List.getElem?_take] at hj
  split at hj
  · rw [List.getElem?_drop] at hj; exact hj
  · cases hj
theorem Rd.vis1 {α : Type} {E : Enc α} {h : SH} {xs : List α} {A : HP} (hv : Vis A (Rd E h xs)) {j k : Nat} {x : α} {c : Value} (hj : xs[j]? = some x) (hc : nth (E.f x) k = some c) : Vis A (fun w => w.cell? (eAd h E.sz j k) = some c) :=
  hv.imp fun w hr => by
    rw [nth_eq] at hc
    have := hr.cell _ c (flat_at E hj hc)
    rwa [show h.off + (j * E.sz + k) = h.off + j * E.sz + k by omega] at this
theorem Rd.visA {α : Type} {E : Enc α} {h : SH} {xs : List α} {A : HP} (hv : Vis A (Rd E h xs)) {j k : Nat} {x : α} {cs : List Value} (hj : xs[j]? = some x) (hc : ((E.f x).drop k).take cs.length = cs) :
    Vis A (fun w => ∀ i c, cs[i]? = some c → w.cell? ((eAd h E.sz j k).add i) = some c) := hv.imp fun w hr i c hi => by
  unfold eAd
  rw [add_lit]
  rw [← hc, List.getElem?_take] at hi
  split at hi
  · rw [List.getElem?_drop] at hi
    have := hr.cell _ c (flat_at E hj hi)
    rwa [show h.off + (j * E.sz + (k + i)) = h.off + j * E.sz + k + i by omega] at this
  · cases hi
theorem y_len {x : Operand} {t : TypeId} {h : SH} {m : Nat} {e : TypeId} (ht : P.underlying t = some (.slice e)) (hx : ev ρ x = some h.v) (hm : h.len = m) : Yld P ι F n ρ l ⟨dst, .call { callee := .builtin .len, args := #[x], argTypes := #[t] }, ty, pos, aft, gd⟩ (.int .i64 (m : Int)) := fun a' w he _ => by subst hm; simp [execOp, resolve, invoke, builtin, Builtin.len_, he.eval hx, SH.v, run_underlying ht, goInt]
theorem y_cap {x : Operand} {t : TypeId} {h : SH} {e : TypeId} (ht : P.underlying t = some (.slice e)) (hx : ev ρ x = some h.v) : Yld P ι F n ρ l ⟨dst, .call { callee := .builtin .cap, args := #[x], argTypes := #[t] }, ty, pos, aft, gd⟩ (.int .i64 (h.cap : Int)) := fun a' w he _ => by simp [execOp, resolve, invoke, builtin, Builtin.cap_, he.eval hx, SH.v, run_underlying ht, goInt]
theorem y_elem (i : Nat) {A : HP} (hA : nth l i = some A) {α : Type} {E : Enc α} {h : SH} {xs : List α} (hv : Vis A (Rd E h xs)) {x y : Operand} {t e : TypeId} {k : IntKind} {z : Int} (j : Nat) (hj : z = (j : Int)) (hlt : j < xs.length)
    (ht : TySl P t e E.sz) (hx : ev ρ x = some h.v) (hy : ev ρ y = some (.int k z)) : Yld P ι F n ρ l ⟨dst, .indexAddr t x y, ty, pos, aft, gd⟩ (.pointer (some (eAd h E.sz j 0))) := fun a w he hw => by
      have hr := hv ι w (VC.chunk hw hA)
      rcases hr.adr with ha | ⟨h0, _⟩
      · have hl : j < h.len := by rw [hr.len]; exact hlt
        subst hj
        have he1 : a.eval x = .slice (some ⟨h.blk, h.off, none⟩) h.len h.cap := by rw [he.eval hx]; unfold SH.v; rw [← ha]
        have hlc : (j : Int) < (h.len : Int) := by exact_mod_cast hl
        simp [execOp, he1, he.eval hy, Instr.indexAt, asIntOf, run_underlying ht.und, hl, run_sizeOf ht.size, add_lit, eAd]
      · rw [h0] at hlt; simp at hlt
structure Fld (P : Program) (s : TypeId) (f k : Nat) : Prop where
  ok : ∃ fs fld m, P.underlying s = some (.struct fs) ∧ fs[f]? = some fld ∧ fld.offset = k ∧ (P.info? fld.type).map (·.size) = some (m + 1)
theorem run_field {s : TypeId} {f k : Nat} (h : Fld P s f k) (a : Addr) (w : World) : (Instr.fieldAt s (.pointer (some a)) f).run P w = .ok (.pointer (some (a.add k))) w := by
  obtain ⟨fs, fld, m, h1, h2, h3, h4⟩ := h.ok
  subst h3
  simp [Instr.fieldAt, run_underlying h1, h2, Instr.sureAddr, fieldPlace, run_sizeOf h4]
theorem y_fieldP {s : TypeId} {f k : Nat} (hf : Fld P s f k) {x : Operand} {b o : Nat} (o' : Nat) (ho : o + k = o') (hx : ev ρ x = some (.pointer (some ⟨b, o, none⟩))) : Yld P ι F n ρ l ⟨dst, .fieldAddr s x f, ty, pos, aft, gd⟩ (.pointer (some ⟨b, o', none⟩)) := fun a w he hw => by subst ho; simp [execOp, he.eval hx, run_field hf, add_lit]
theorem y_fieldE {s : TypeId} {f k : Nat} (hf : Fld P s f k) {x : Operand} {h : SH} {sz j o : Nat} (o' : Nat) (ho : o + k = o') (hx : ev ρ x = some (.pointer (some (eAd h sz j o)))) : Yld P ι F n ρ l ⟨dst, .fieldAddr s x f, ty, pos, aft, gd⟩ (.pointer (some (eAd h sz j o'))) := fun a w he hw => by subst ho; simp [execOp, he.eval hx, run_field hf, eAd, add_lit, Nat.add_assoc]
theorem y_fieldG {s : TypeId} {f k : Nat} (hf : Fld P s f k) {x : Operand} {ad : Addr} (hx : ev ρ x = some (.pointer (some ad))) : Yld P ι F n ρ l ⟨dst, .fieldAddr s x f, ty, pos, aft, gd⟩ (.pointer (some (ad.add k))) := fun a w he hw => by simp [execOp, he.eval hx, run_field hf]
def splice (cs : List Value) (k : Nat) (vs : List Value) : List Value := cs.take k ++ vs ++ cs.drop (k + vs.length)
theorem run_storeVar_at {t : TypeId} {w : World} {b o : Nat} {cs : List Value} {e : TypeId} (hb : w.heap[b]? = some (.cells cs.toArray e (0, 0))) {v : Value} {vs : List Value} (hv : v.cells = vs.toArray) (hs : (P.info? t).map (·.size) = some vs.length)
    (h1 : ∀ c ∈ vs, c.oneCell' = true) (hfit : o + vs.length ≤ cs.length) : (storeVar t ⟨b, o, none⟩ v).run P w = .ok () (w.setRow b (splice cs o vs).toArray) := by
  have := run_storeCells_at P b o e vs 0 cs.toArray w hb (by simpa using hfit) h1
  simp only [Nat.add_zero] at this
  simp [storeVar, run_sizeOf hs, hv, this, splice]
theorem all_one {vs : List Value} (h : vs.all (fun c => c.oneCell') = true) : ∀ c ∈ vs, c.oneCell' = true := by simpa using h
theorem vc_storeP (i : Nat) {b : Nat} {cs : List Value} {e : TypeId} (hA : nth l i = some (Pts b cs e)) {t : TypeId} {x y : Operand} {o : Nat} {v : Value} (vs cs' : List Value) (hx : ev ρ x = some (.pointer (some ⟨b, o, none⟩))) (hy : ev ρ y = some v) (hv : v.cells = vs.toArray)
      (hs : (P.info? t).map (·.size) = some vs.length) (h1 : vs.all (fun c => c.oneCell') = true) (hfit : Nat.ble (o + vs.length) cs.length = true) (hc : splice cs o vs = cs')
    (h : VC ι F n (wpList P all Q rest) ρ (put l i (Pts b cs' e))) : VC ι F n (wpList P all Q (⟨none, .store t x y, ty, pos, aft, none⟩ :: rest)) ρ l := fun a w he hw =>
  wpList_plain rfl fun K hK => by
    have h1' : Holds ι w (sep (Pts b cs e) (sep (seps (del l i)) F)) := (hw.ent (Ent.sep (Ent.out hA) Ent.rfl)).ent Ent.assoc
    have hr := run_storeVar_at (P := P) (t := t) (h1'.ent Ent.left).pts hv hs (all_one h1) (Nat.le_of_ble_eq_true hfit)
    unfold Oper.wp
    simp only [execOp, he.eval hx, he.eval hy, Instr.storeAt, Instr.sureAddr, Sem.run_bind, Sem.run_pure, Result.andThen_ok, hr]
    refine hK _ _ (h _ _ (he.put0 _) ?_)
    subst hc
    exact ((h1'.set (splice cs o vs)).ent Ent.assoc').ent (Ent.sep (Ent.back hA) Ent.rfl)
theorem list_set_flat {α : Type} (E : Enc α) {xs : List α} {j : Nat} {x x' : α} (hj : xs[j]? = some x) {k : Nat} {vs : List Value} (hx : splice (E.f x) k vs = E.f x') (hk : k + vs.length ≤ E.sz) (pre post : List Value) :
    splice (pre ++ flat E xs ++ post) (pre.length + j * E.sz + k) vs = pre ++ flat E (xs.set j x') ++ post := by
  have hlt := (List.getElem?_eq_some_iff.1 hj).1
  have hsp : xs = xs.take j ++ x :: xs.drop (j + 1) := by
    rw [← (List.getElem?_eq_some_iff.1 hj).2]; simp
  have hset : xs.set j x' = xs.take j ++ x' :: xs.drop (j + 1) := by
    rw [List.set_eq_take_append_cons_drop, if_pos hlt]
  rw [hset, hsp]
  have hl : (flat E (xs.take j)).length = j * E.sz := by rw [flat_length, List.length_take]; congr 1; omega
  have htake : (List.take j (xs.take j ++ x :: xs.drop (j + 1))) = xs.take j := by
    rw [← hsp]
  have hdrop : (List.drop (j + 1) (xs.take j ++ x :: xs.drop (j + 1))) = xs.drop (j + 1) := by rw [← hsp]
  rw [htake, hdrop]
  simp only [flat_append, flat_cons]
  rw [← hx]
  generalize hA : flat E (xs.take j) = A at *
  generalize flat E (xs.drop (j + 1)) = B
  have hfx : (E.f x).length = E.sz := E.len x
  generalize E.f x = X at *
  unfold splice
  have e1 : pre.length + j * E.sz + k = (pre ++ A).length + k := by simp [hl]
  rw [e1]
  have e2 : (pre ++ (A ++ (X ++ B)) ++ post) = (pre ++ A) ++ (X ++ (B ++ post)) := by simp
  rw [e2, List.take_length_add_append, Nat.add_assoc, List.drop_length_add_append, List.take_append_of_le_length (by omega), List.drop_append_of_le_length (by omega)]
  simp
theorem vc_storeE (i : Nat) {α : Type} {E : Enc α} {h : SH} {xs : List α} (hA : nth l i = some (Sl E h xs)) {t : TypeId} {x y : Operand} {j k : Nat} {v : Value} {z : α} (vs : List Value) (z' : α) (hx : ev ρ x = some (.pointer (some (eAd h E.sz j k)))) (hy : ev ρ y = some v) (hv : v.cells = vs.toArray)
      (hs : (P.info? t).map (·.size) = some vs.length) (h1 : vs.all (fun c => c.oneCell') = true) (hj : xs[j]? = some z) (hfit : k + vs.length ≤ E.sz) (hc : splice (E.f z) k vs = E.f z')
    (g : VC ι F n (wpList P all Q rest) ρ (put l i (Sl E h (xs.set j z')))) : VC ι F n (wpList P all Q (⟨none, .store t x y, ty, pos, aft, none⟩ :: rest)) ρ l := fun a w he hw =>
  wpList_plain rfl fun K hK => by
    obtain ⟨g1, g2, r, x0, s, x1, x2, hjn, ⟨hl, hh⟩, hf⟩ : Holds ι w (sep (Sl E h xs) (sep (seps (del l i)) F)) := (hw.ent (Ent.sep (Ent.out hA) Ent.rfl)).ent Ent.assoc
    have hlt := (List.getElem?_eq_some_iff.1 hj).1
    rcases hh with ⟨h0, _⟩ | ⟨b, pre, post, a1, a2, a3, a4⟩
    · rw [h0] at hlt; simp at hlt
    · have hP : Holds ι w (sep (Pts b (pre ++ flat E xs ++ post) E.ty) (sep (seps (del l i)) F)) := ⟨g1, g2, r, x0, s, x1, x2, hjn, a4, hf⟩
      have hblk : h.blk = b := by simp [SH.blk, a1]
      have hoff : h.off = pre.length := by simp [SH.off, a1]
      have hbound : j * E.sz + E.sz ≤ xs.length * E.sz := by
        have := Nat.mul_le_mul_right E.sz (show j + 1 ≤ xs.length by omega)
        rwa [Nat.add_mul, Nat.one_mul] at this
      have hr := run_storeVar_at (P := P) (t := t) (o := pre.length + j * E.sz + k) (hP.ent Ent.left).pts hv hs (all_one h1) (by simp [flat_length]; omega)
      unfold Oper.wp
      simp only [execOp, he.eval hx, he.eval hy, Instr.storeAt, Instr.sureAddr, Sem.run_bind, Sem.run_pure, Result.andThen_ok, eAd, hblk, hoff, hr]
      refine hK _ _ (g _ _ (he.put0 _) ?_)
      rw [list_set_flat E hj hc hfit]
      have h2 := (hP.set (pre ++ flat E (xs.set j z') ++ post))
      refine (((h2.ent (Ent.sep (B := sep (seps (del l i)) F) ?_ Ent.rfl)).ent Ent.assoc').ent (Ent.sep (Ent.back hA) Ent.rfl))
      exact fun r x hp => ⟨by simp [hl], .inr ⟨b, pre, post, a1, by simpa using a2, by simpa using a3, hp⟩⟩
theorem vc_alloc {t : TypeId} {z : Value} (cs : List Value) (hz : (P.info? t).map (·.zero) = some (some z)) (hc : z.cells = cs.toArray) (hd : Nat.blt d n = true)
    (h : ∀ b, VC ι F n (wpList P all Q rest) ((d, .pointer (some ⟨b, 0, none⟩)) :: ρ) (Pts b cs t :: l)) : VC ι F n (wpList P all Q (⟨some d, .alloc t, ty, pos, aft, none⟩ :: rest)) ρ l := fun a w he hw =>
  wpList_plain rfl fun K hK => by
    have hr : (execOp a.eval ⟨some d, .alloc t, ty, pos, aft, none⟩).run P w = .ok (.value (.pointer (some ⟨w.heap.size, 0, none⟩))) { w with heap := w.heap.push (.cells cs.toArray t (0, 0)) } := by
      cases hq : P.info? t with
      | none => simp [hq] at hz
      | some i => simp [hq] at hz; simp [execOp, Instr.alloc, zeroValue, typeInfo, hq, hz, newVar, newRow, newObj, Sem.run, hc]
    unfold Oper.wp
    rw [hr]
    exact hK _ _ (h w.heap.size _ _ (he.put d hd _) ((hw.new cs t).ent Ent.assoc'))
theorem vc_box {t : TypeId} {x : Operand} {v : Value} (cs : List Value) (hx : ev ρ x = some v) (hc : v.cells = cs.toArray) (hd : Nat.blt d n = true)
    (h : ∀ b, VC ι F n (wpList P all Q rest) ((d, .pointer (some ⟨b, 0, none⟩)) :: ρ) (Pts b cs t :: l)) : VC ι F n (wpList P all Q (⟨some d, .box t x, ty, pos, aft, none⟩ :: rest)) ρ l := fun a w he hw =>
  wpList_plain rfl fun K hK => by
    have hr : (execOp a.eval ⟨some d, .box t x, ty, pos, aft, none⟩).run P w = .ok (.value (.pointer (some ⟨w.heap.size, 0, none⟩))) { w with heap := w.heap.push (.cells cs.toArray t (0, 0)) } := by
      simp [execOp, Instr.box, newVar, newRow, newObj, Sem.run, hc, he.eval hx]
    unfold Oper.wp
    rw [hr]
    exact hK _ _ (h w.heap.size _ _ (he.put d hd _) ((hw.new cs t).ent Ent.assoc'))
theorem y_build {t : TypeId} {ps : Array (Nat × Operand)} (qs : List (Nat × Value)) (cs : List Value) (hp : ps.toList.map (fun p => (p.1, ev ρ p.2)) = qs.map (fun p => (p.1, some p.2)))
    (hb : ∀ w, (Instr.build t qs.toArray).run P w = .ok (.agg cs.toArray) w) : Yld P ι F n ρ l ⟨dst, .build t ps, ty, pos, aft, gd⟩ (.agg cs.toArray) := fun a w he hw => by
      have aux : ∀ (ps : List (Nat × Operand)) (qs : List (Nat × Value)), ps.map (fun p => (p.1, ev ρ p.2)) = qs.map (fun p => (p.1, some p.2)) → ps.map (fun p => (p.1, a.eval p.2)) = qs := by
        intro ps
        induction ps with
        | nil => intro qs h; cases qs <;> simp_all
        | cons p ps ih => intro qs h; cases qs with
          | nil => simp at h
          | cons q qs => obtain ⟨q1, q2⟩ := q; simp at h; obtain ⟨⟨h1, h2⟩, h3⟩ := h; simp [h1, he.eval h2, ih qs h3]
      have e : ps.map (fun p => (p.1, a.eval p.2)) = qs.toArray := by apply Array.ext'; simp [aux _ _ hp]
      have e' : (ps.map fun x => match x with | (i, x) => (i, a.eval x)) = qs.toArray := e
      simp only [execOp, e', Sem.run_bind, hb, Result.andThen_ok]; rfl
theorem vc_buildSlice {α : Type} {E : Enc α} {t : TypeId} {ps : Array (Nat × Operand)} {m : Nat} (qs : List (Nat × Value)) (xs : List α) (hm : xs.length = m) (hp : ps.toList.map (fun p => (p.1, ev ρ p.2)) = qs.map (fun p => (p.1, some p.2)))
    (hb : ∀ w, (Instr.buildSlice t m qs.toArray).run P w = .ok (.slice (some ⟨w.heap.size, 0, none⟩) m m) { w with heap := w.heap.push (.cells (flat E xs).toArray E.ty (0, 0)) }) (hd : Nat.blt d n = true)
    (h : ∀ h : SH, VC ι F n (wpList P all Q rest) ((d, h.v) :: ρ) (Sl E h xs :: l)) : VC ι F n (wpList P all Q (⟨some d, .buildSlice t m ps, ty, pos, aft, none⟩ :: rest)) ρ l := fun a w he hw =>
  wpList_plain rfl fun K hK => by
    have aux : ∀ (ps : List (Nat × Operand)) (qs : List (Nat × Value)), ps.map (fun p => (p.1, ev ρ p.2)) = qs.map (fun p => (p.1, some p.2)) → ps.map (fun p => (p.1, a.eval p.2)) = qs := by
        intro ps
        induction ps with
        | nil => intro qs h; cases qs <;> simp_all
        | cons p ps ih => intro qs h; cases qs with
          | nil => simp at h
          | cons q qs => obtain ⟨q1, q2⟩ := q; simp at h; obtain ⟨⟨h1, h2⟩, h3⟩ := h; simp [h1, he.eval h2, ih qs h3]
    have e : ps.map (fun p => (p.1, a.eval p.2)) = qs.toArray := by apply Array.ext'; simp [aux _ _ hp]
    have e' : (ps.map fun x => match x with | (i, x) => (i, a.eval x)) = qs.toArray := e
    have hr : (execOp a.eval ⟨some d, .buildSlice t m ps, ty, pos, aft, none⟩).run P w = .ok (.value (.slice (some ⟨w.heap.size, 0, none⟩) m m)) { w with heap := w.heap.push (.cells (flat E xs).toArray E.ty (0, 0)) } := by
      simp only [execOp, e', Sem.run_bind, hb, Result.andThen_ok]; rfl
    unfold Oper.wp
    rw [hr]
    subst hm
    refine hK _ _ (h ⟨some ⟨w.heap.size, 0, none⟩, xs.length, xs.length⟩ _ _ (he.put d hd _) (((hw.new (flat E xs) E.ty).ent Ent.assoc').ent (Ent.sep (Ent.sep ?_ Ent.rfl) Ent.rfl)))
    have := Sl.mk1 (E := E) w.heap.size xs xs.length [] (Nat.le_refl _) (by simp)
    simpa using this
theorem run_build {t : TypeId} {z : Value} {fs : Array Field} {ps : List (Nat × Value)} {cs : Array Value} {pl : List (Nat × Nat)} (hz : (P.info? t).map (·.zero) = some (some z)) (hu : P.underlying t = some (.struct fs))
    (hp : (fs.toList.map fun f => (P.info? f.type).map fun i => (f.offset, i.size)) = pl.map some) (hz' : z.cells = z.cells) (hf : Instr.fill (pl.toArray[·]?) z.cells ps = some cs) (w : World) : (Instr.build t ps.toArray).run P w = .ok (.agg cs) w := by
  have hzv : (zeroValue t).run P w = .ok z w := by
    cases hq : P.info? t with
    | none => simp [hq] at hz
    | some i => simp [hq] at hz; simp [zeroValue, typeInfo, hq, hz]
  have key : ∀ (l : List Field) (p : List (Nat × Nat)), (l.map fun f => (P.info? f.type).map fun i => (f.offset, i.size)) = p.map some → (l.mapM fun f => (do Pure.pure (f.offset, ← sizeOf f.type) : Sem (Nat × Nat))).run P w = .ok p w := by
    intro l
    induction l with
    | nil => intro p h; cases p <;> simp_all
    | cons f l ih =>
      intro p h
      cases p with
      | nil => simp at h
      | cons q p =>
        simp only [List.map_cons, List.cons.injEq] at h
        have h2 := ih p h.2
        have h1 : (sizeOf f.type).run P w = .ok q.2 w ∧ f.offset = q.1 := by
          cases hq : P.info? f.type with
          | none => simp [hq] at h
          | some i => simp [hq] at h; constructor
                      · simp [sizeOf, typeInfo, hq, ← h.1]
                      · simp [← h.1]
        obtain ⟨q1, q2⟩ := q
        simp only [List.mapM_cons, Sem.run_bind, h1.1, Result.andThen_ok, h2, Sem.run_pure, h1.2]
  have hm : (fs.mapM fun f => (do Pure.pure (f.offset, ← sizeOf f.type) : Sem (Nat × Nat))).run P w = .ok pl.toArray w := by
    rw [Array.mapM_eq_mapM_toList]
    simp only [map_eq_pure_bind, Sem.run_bind, key fs.toList pl hp, Result.andThen_ok, Sem.run_pure]
  simp only [Instr.build, Sem.run_bind, hzv, Result.andThen_ok, run_underlying hu, hm]
  rw [hf]
  rfl
theorem run_buildSlice {t e : TypeId} {z : Value} {s m : Nat} {ps : List (Nat × Value)} {cs : Array Value} (hu : P.underlying t = some (.slice e)) (hs : (P.info? e).map (·.size) = some s) (hz : (P.info? e).map (·.zero) = some (some z)) (hm : m * s ≤ 2 ^ 24)
    (hf : Instr.fill (fun i => some (i * s, s)) ((Array.range (m * s)).map ((if m * s = 0 then #[] else z.cells)[· % (if m * s = 0 then #[] else z.cells).size]!)) ps = some cs) (w : World) :
    (Instr.buildSlice t m ps.toArray).run P w = .ok (.slice (some ⟨w.heap.size, 0, none⟩) m m) { w with heap := w.heap.push (.cells cs e (0, 0)) } := by
  have hzv : (zeroValue e).run P w = .ok z w := by
    cases hq : P.info? e with
    | none => simp [hq] at hz
    | some i => simp [hq] at hz; simp [zeroValue, typeInfo, hq, hz]
  have hm' : ¬ (m * s > 2 ^ 24) := by omega
  by_cases h0 : m * s = 0
  · simp only [h0, if_true] at hf
    simp [Instr.buildSlice, run_underlying hu, run_sizeOf hs, h0, newRow, newObj, Sem.run]
    simp at hf
    rw [hf]
    rfl
  · simp only [h0, if_false] at hf
    simp only [Instr.buildSlice, Sem.run_bind, run_underlying hu, run_sizeOf hs, Result.andThen_ok, hm', h0, if_false, hzv, Sem.run_pure]
    rw [hf]
    simp [newRow, newObj, Sem.run]
def Does (P : Program) (f : FuncId) (args : List Value) (pre : List HP) (Post : Value → List HP → Prop) : Prop :=
  ∀ ι F w, Holds ι w (sep (seps pre) F) → Calls P f args.toArray w fun e w' => ∃ v l', Post v l' ∧ e = .returned v ∧ Holds ι w' (sep (seps l') F)
theorem Does.imp {f : FuncId} {args : List Value} {pre : List HP} {Post Post' : Value → List HP → Prop} (h : Does P f args pre Post) (i : ∀ v l, Post v l → Post' v l) : Does P f args pre Post' :=
  fun ι F w hw => (h ι F w hw).mono fun _ _ ⟨v, l', hp, e, hw'⟩ => ⟨v, l', i v l' hp, e, hw'⟩
theorem Does.many {f : FuncId} {args : List Value} {pre : List HP} {R : Value → Prop} (h : Does P f args [seps pre] (fun v l => R v ∧ l = [seps pre])) : Does P f args pre (fun v l => R v ∧ l = pre) := fun ι F w hw =>
  (h ι F w (hw.ent (Ent.sep (Ent.empL.trans Ent.comm) Ent.rfl))).mono fun _ _ ⟨v, l', ⟨hr, hl⟩, e, hw'⟩ => ⟨v, pre, ⟨hr, rfl⟩, e, by subst hl; exact hw'.ent (Ent.sep Ent.left Ent.rfl)⟩
theorem Vis.at {φ : World → Prop} {l : List HP} {A : HP} (i : Nat) (hA : nth l i = some A) (h : Vis A φ) : Vis (seps l) φ := h.ent ((Ent.out hA).trans Ent.left)
structure Callable (P : Program) (f : FuncId) : Prop where
  ok : ∃ fn c, P.funcs[f]? = some fn ∧ fn.body = some c ∧ (fn.name == "runtime.NumGoroutine") = false
theorem run_callFunc {f : FuncId} (h : Callable P f) (args : Array Value) (w : World) : (callFunc f args).run P w = .ok (.enter f args) w := by
  obtain ⟨fn, c, h1, h2, h3⟩ := h.ok
  have h3' : ¬ (fn.name = "runtime.NumGoroutine") := by simpa using h3
  simp [callFunc, program, Sem.run, h1, h2, h3']
theorem vc_call {dst : Option Nat} {f : FuncId} (hf : Callable P f) {xs : Array Operand} {ats : Array TypeId} {c : Operand} {us vs : List Value} (hc : ev ρ c = some (.func (.func f) us.toArray vs.toArray)) (args : List Value) (hargs : xs.toList.map (ev ρ) = args.map some) (is : List Nat) {pre r : List HP} (hpick : pick is l = some (pre, r))
    {Post : Value → List HP → Prop} (spec : Does P f (us ++ args ++ vs) pre Post) (hd : okO n dst = true)
    (h : ∀ v l', Post v l' → VC ι F n (wpList P all Q rest) (putO dst v ρ) (l' ++ r)) :
    VC ι F n (wpList P all Q (⟨dst, .call { callee := .value c, args := xs, argTypes := ats }, ty, pos, aft, none⟩ :: rest)) ρ l := fun a w he hw =>
  wpList_plain rfl fun K hK => by
    have aux : ∀ (xs : List Operand) (us : List Value), xs.map (ev ρ) = us.map some → xs.map a.eval = us := by
      intro xs
      induction xs with
      | nil => intro us h; cases us <;> simp_all
      | cons x xs ih => intro us h; cases us with
        | nil => simp at h
        | cons u us => simp at h; simp [he.eval h.1, ih us h.2]
    have e : xs.map a.eval = args.toArray := by apply Array.ext'; simp [aux _ _ hargs]
    have hr : (execOp a.eval ⟨dst, .call { callee := .value c, args := xs, argTypes := ats }, ty, pos, aft, none⟩).run P w = .ok (.enter f (us ++ args ++ vs).toArray) w := by
      simp only [execOp, resolve, e, he.eval hc, Deferred.ofValue, invoke, Sem.run_bind, Sem.run_pure, Result.andThen_ok, run_callFunc hf]
      congr 2
      apply Array.ext'
      simp
    unfold Oper.wp
    rw [hr, Oper.upon_enter]
    have h1 : Holds ι w (sep (seps pre) (sep (seps r) F)) := (hw.ent (Ent.sep (Ent.pick hpick) Ent.rfl)).ent Ent.assoc
    refine (spec ι (sep (seps r) F) w h1).mono ?_
    rintro e' w' ⟨v, l', hp, rfl, hw'⟩
    exact hK _ _ (h v l' hp _ _ (he.putO dst hd v) ((hw'.ent Ent.assoc').ent (Ent.sep Ent.append' Ent.rfl)))
theorem vc_callv {f : FuncId} (hf : Callable P f) {xs : Array Operand} {ats : Array TypeId} {c : Operand} {us vs : List Value} (hc : ev ρ c = some (.func (.func f) us.toArray vs.toArray)) (args : List Value) (hargs : xs.toList.map (ev ρ) = args.map some) (is : List Nat) {pre r : List HP} (hpick : pick is l = some (pre, r))
    {Post : Value → List HP → Prop} (spec : Does P f (us ++ args ++ vs) pre Post) (hd : Nat.blt d n = true)
    (h : ∀ v l', Post v l' → VC ι F n (wpList P all Q rest) ((d, v) :: ρ) (l' ++ r)) :
    VC ι F n (wpList P all Q (⟨some d, .call { callee := .value c, args := xs, argTypes := ats }, ty, pos, aft, none⟩ :: rest)) ρ l :=
  vc_call hf hc args hargs is hpick spec (dst := some d) hd h
theorem vc_calln {f : FuncId} (hf : Callable P f) {xs : Array Operand} {ats : Array TypeId} {c : Operand} {us vs : List Value} (hc : ev ρ c = some (.func (.func f) us.toArray vs.toArray)) (args : List Value) (hargs : xs.toList.map (ev ρ) = args.map some) (is : List Nat) {pre r : List HP} (hpick : pick is l = some (pre, r))
    {Post : Value → List HP → Prop} (spec : Does P f (us ++ args ++ vs) pre Post)
    (h : ∀ v l', Post v l' → VC ι F n (wpList P all Q rest) ρ (l' ++ r)) :
    VC ι F n (wpList P all Q (⟨none, .call { callee := .value c, args := xs, argTypes := ats }, ty, pos, aft, none⟩ :: rest)) ρ l :=
  vc_call hf hc args hargs is hpick spec (dst := none) rfl h
theorem spec_of {f : FuncId} {fn : Func} {c : Code} (hf : P.funcs[f]? = some fn) (hb : fn.body = some c) {m : Nat} (hm : fn.ntmps = m) {rs : Array ResultVar} (hrs : fn.results = rs) (args : List Value) (ha : args.length ≤ m) {pre : List HP} {Post : Value → List HP → Prop}
    (h : ∀ ι F, VC ι F m (c.wp P (bodyPost P fn (fun e w' => ∃ v l', Post v l' ∧ e = .returned v ∧ Holds ι w' (sep (seps l') F)))) (args.zipIdx.map fun p => (p.2, p.1)) pre) : Does P f args pre Post := by
  intro ι F w hw
  refine calls_of_wp hf hb (h ι F _ _ ⟨rfl, ?_, ?_⟩ hw)
  · simp [hm]; omega
  · intro t v hv
    have : ∀ (l : List Value) (k t : Nat) (v : Value), lk ((l.zipIdx k).map fun p => (p.2, p.1)) t = some v → k ≤ t ∧ l[t - k]? = some v := by
      intro l
      induction l with
      | nil => intro k t v h; simp [lk] at h
      | cons u l ih =>
        intro k t v h
        simp only [List.zipIdx_cons, List.map_cons, lk] at h
        cases hb : Nat.beq k t with
        | true =>
          rw [hb] at h
          have := Nat.eq_of_beq_eq_true hb
          subst this
          simp at h; subst h; simp
        | false =>
          rw [hb] at h
          have hne : k ≠ t := fun e => by subst e; simp at hb
          have h2 := ih (k + 1) t v h
          refine ⟨by omega, ?_⟩
          rw [show t - k = (t - (k + 1)) + 1 by omega]
          simpa using h2.2
    have h2 := (this args 0 t v hv).2
    simp only [Nat.sub_zero] at h2
    have hlt := (List.getElem?_eq_some_iff.1 h2).1
    rw [Array.getElem?_append_left (by simpa using hlt)]
    simpa using h2
theorem vc_end0 {fn : Func} (hrs : fn.results = #[]) {Post : Value → List HP → Prop} (l' : List HP) (hl : Ent (seps l) (seps l')) (h : Post (.tuple #[]) l') :
    VC ι F n (bodyPost P fn (fun e w' => ∃ v l', Post v l' ∧ e = .returned v ∧ Holds ι w' (sep (seps l') F)) .ret) ρ l := fun a w he hw =>
  ⟨he.defers, .tuple #[], by simp [results, hrs, noResult], _, l', h, rfl, hw.ent (Ent.sep hl Ent.rfl)⟩
theorem vc_end1 {fn : Func} {t : Nat} (hrs : fn.results = #[.tmp t]) {v : Value} (hv : lk ρ t = some v) {Post : Value → List HP → Prop} (l' : List HP) (hl : Ent (seps l) (seps l')) (h : Post v l') :
    VC ι F n (bodyPost P fn (fun e w' => ∃ v l', Post v l' ∧ e = .returned v ∧ Holds ι w' (sep (seps l') F)) .ret) ρ l := fun a w he hw =>
  ⟨he.defers, v, by simp [results, hrs, he.val _ _ hv], _, l', h, rfl, hw.ent (Ent.sep hl Ent.rfl)⟩
theorem vc_end2 {fn : Func} {t t' : Nat} (hrs : fn.results = #[.tmp t, .tmp t']) {v v' : Value} (hv : lk ρ t = some v) (hv' : lk ρ t' = some v') {Post : Value → List HP → Prop} (l' : List HP) (hl : Ent (seps l) (seps l')) (h : Post (.tuple #[v, v']) l') :
    VC ι F n (bodyPost P fn (fun e w' => ∃ v l', Post v l' ∧ e = .returned v ∧ Holds ι w' (sep (seps l') F)) .ret) ρ l := fun a w he hw =>
  ⟨he.defers, _, by simp [results, hrs, he.val _ _ hv, he.val _ _ hv'], _, l', h, rfl, hw.ent (Ent.sep hl Ent.rfl)⟩
theorem vc_end3 {fn : Func} {t t' t'' : Nat} (hrs : fn.results = #[.tmp t, .tmp t', .tmp t'']) {v v' v'' : Value} (hv : lk ρ t = some v) (hv' : lk ρ t' = some v') (hv'' : lk ρ t'' = some v'') {Post : Value → List HP → Prop} (l' : List HP) (hl : Ent (seps l) (seps l')) (h : Post (.tuple #[v, v', v'']) l') :
    VC ι F n (bodyPost P fn (fun e w' => ∃ v l', Post v l' ∧ e = .returned v ∧ Holds ι w' (sep (seps l') F)) .ret) ρ l := fun a w he hw =>
  ⟨he.defers, _, by simp [results, hrs, he.val _ _ hv, he.val _ _ hv', he.val _ _ hv''], _, l', h, rfl, hw.ent (Ent.sep hl Ent.rfl)⟩
theorem vc_end0n {P : Program} {ι : Io} {F : HP} {n : Nat} {ρ : List (Nat × Value)} {l : List HP} {fn : Func} (hrs : fn.results = #[]) {Post : Value → List HP → Prop} (l' : List HP) (hl : Ent (seps l) (seps l')) (h : Post (.tuple #[]) l') :
    VC ι F n (bodyPost P fn (fun e w' => ∃ v l', Post v l' ∧ e = .returned v ∧ Holds ι w' (sep (seps l') F)) .normal) ρ l := fun a w he hw =>
  ⟨he.defers, .tuple #[], by simp [results, hrs, noResult], _, l', h, rfl, hw.ent (Ent.sep hl Ent.rfl)⟩
theorem sl_new {α : Type} {E : Enc α} {l : List HP} : Ent (seps l) (seps (Sl E nilS [] :: l)) := Ent.empL.trans (Ent.sep Sl.nil Ent.rfl)
theorem ent_pick {l s r : List HP} (is : List Nat) (h : pick is l = some (s, r)) : Ent (seps l) (seps s) := (Ent.pick h).trans Ent.left
end
end Go.Eng
namespace Go.Eng
def SH.cut (h : SH) (sz lo hi mx : Nat) : SH := ⟨if mx = lo then h.a else h.a.map (·.add (lo * sz)), hi - lo, mx - lo⟩
section
variable {α : Type} {E : Enc α} {h : SH} {xs : List α}
theorem cut_length {xs : List α} {lo hi : Nat} (h1 : lo ≤ hi) (h2 : hi ≤ xs.length) : ((xs.take hi).drop lo).length = hi - lo := by simp; omega
theorem Rd.cut {w : World} (hr : Rd E h xs w) {lo hi mx : Nat} (h1 : lo ≤ hi) (h2 : hi ≤ xs.length) (h3 : hi ≤ mx) (h4 : mx ≤ h.cap) : Rd E (h.cut E.sz lo hi mx) ((xs.take hi).drop lo) w := by
  have hl := cut_length (xs := xs) h1 h2
  by_cases hm : mx = lo
  · have he : (xs.take hi).drop lo = [] := List.eq_nil_of_length_eq_zero (by omega)
    rw [he]
    exact ⟨by simp [SH.cut]; omega, by simp, .inr ⟨rfl, by simp [SH.cut]; omega⟩, fun m c hc => by simp [flat] at hc⟩
  · rcases hr.adr with ha | ⟨h0, hc⟩
    · refine ⟨by simp [SH.cut, hl], by simp [SH.cut, hl]; omega, .inl ?_, fun m c hc => ?_⟩
      · simp only [SH.cut, hm, if_false]
        rw [ha]
        simp [SH.blk, SH.off, add_lit]
      · have e1 : (h.cut E.sz lo hi mx).blk = h.blk := by
          simp only [SH.cut, hm, if_false, SH.blk]; rw [ha]; simp [add_lit]
        have e2 : (h.cut E.sz lo hi mx).off = h.off + lo * E.sz := by
          simp only [SH.cut, hm, if_false, SH.off]; rw [ha]; simp [add_lit, SH.off]
        rw [e1, e2]
        rw [flat_drop, flat_take, List.getElem?_drop, List.getElem?_take] at hc
        split at hc
        · have := hr.cell _ c hc
          rwa [show h.off + (lo * E.sz + m) = h.off + lo * E.sz + m by omega] at this
        · cases hc
    · omega
theorem Sl.cut {lo hi mx : Nat} (h1 : lo ≤ hi) (h2 : hi ≤ xs.length) (h3 : hi ≤ mx) (h4 : mx ≤ h.cap) : Ent (Sl E h xs) (Sl E (h.cut E.sz lo hi mx) ((xs.take hi).drop lo)) := by
  rintro r x ⟨a0, hh⟩
  have hl := cut_length (xs := xs) h1 h2
  refine ⟨by simp [SH.cut, hl], ?_⟩
  by_cases hm : mx = lo
  · exact .inl ⟨List.eq_nil_of_length_eq_zero (by omega), by simp [SH.cut]; omega⟩
  · rcases hh with ⟨h0, hc⟩ | ⟨b, pre, post, a1, a2, a3, a4⟩
    · omega
    · have hlen : (flat E (xs.take lo)).length = lo * E.sz := by rw [flat_length, List.length_take]; congr 1; omega
      refine .inr ⟨b, pre ++ flat E (xs.take lo), flat E (xs.drop hi) ++ post, ?_, ?_, ?_, ?_⟩
      · simp only [SH.cut, hm, if_false, a1]; simp [add_lit, hlen]
      · simp [SH.cut, hl]; omega
      · simp only [SH.cut, hl, List.length_append, flat_length, List.length_drop]
        have e1 : (mx - lo - (hi - lo)) = mx - hi := by omega
        rw [e1]
        have e2 : (mx - hi) * E.sz ≤ (xs.length - hi + (h.cap - xs.length)) * E.sz := Nat.mul_le_mul_right _ (by omega)
        rw [Nat.add_mul] at e2
        omega
      · have e : pre ++ flat E (xs.take lo) ++ flat E ((xs.take hi).drop lo) ++ (flat E (xs.drop hi) ++ post) = pre ++ flat E xs ++ post := by
          have : xs = xs.take lo ++ ((xs.take hi).drop lo ++ xs.drop hi) := by
            have h5 : xs.take lo = (xs.take hi).take lo := by rw [List.take_take]; congr 1; omega
            rw [h5, ← List.append_assoc, List.take_append_drop, List.take_append_drop]
          conv => rhs; rw [this]
          simp [flat_append]
        rw [e]; exact a4
end
section
variable {P : Program} {ι : Io} {F : HP} {n : Nat} {ρ : List (Nat × Value)} {l : List HP} {K : Act → World → Prop} {Q : Exit → Act → World → Prop} {all : Array Oper} {rest : List Oper}
variable {d : Nat} {ty : TypeId} {pos : String} {aft : Array Edge} {dst : Option Nat} {gd : Option (Nat × Bool)}
def bnd (ρ : List (Nat × Value)) (o : Option Operand) (dflt : Nat) (m : Nat) : Prop :=
  match o with
  | none => m = dflt
  | some x => ∃ k z, ev ρ x = some (.int k z) ∧ z = (m : Int)
theorem run_bound {y : Nat} {m : Nat} {k : IntKind} {z : Int} (hz : z = (m : Int)) (hm : m ≤ y) (c : BoundsCode) (w : World) : (Instr.sliceBound (.int k z) y c).run P w = .ok m w := by
  subst hz
  have hm' : (m : Int) ≤ (y : Int) := by exact_mod_cast hm
  simp [Instr.sliceBound, asIntOf, hm]
theorem y_slice {t e : TypeId} {sz : Nat} (ht : TySl P t e sz) {x : Operand} {h : SH} (hx : ev ρ x = some h.v) {ol oh om : Option Operand} (lo hi mx : Nat) (b1 : bnd ρ ol 0 lo) (b2 : bnd ρ oh h.len hi) (b3 : bnd ρ om h.cap mx) (hom : om.isSome = true → oh.isSome = true)
    (h1 : lo ≤ hi) (h2 : hi ≤ mx) (h3 : mx ≤ h.cap) : Yld P ι F n ρ l ⟨dst, .slice t x ol oh om, ty, pos, aft, gd⟩ ((h.cut sz lo hi mx).v) := fun a w he hw => by
      have hb : (Instr.sliceBounds true h.len h.cap (ol.map a.eval) (oh.map a.eval) (om.map a.eval)).run P w = .ok (lo, hi, mx) w := by
        unfold Instr.sliceBounds
        cases om with
        | none =>
          simp only [bnd] at b3; subst b3
          cases oh with
          | none =>
            simp only [bnd] at b2; subst b2
            cases ol with
            | none => simp only [bnd] at b1; subst b1; simp
            | some x1 => obtain ⟨k1, z1, e1, q1⟩ := b1; simp [he.eval e1, run_bound q1 h1]
          | some x2 =>
            obtain ⟨k2, z2, e2, q2⟩ := b2
            cases ol with
            | none => simp only [bnd] at b1; subst b1; simp [he.eval e2, run_bound q2 h2]
            | some x1 => obtain ⟨k1, z1, e1, q1⟩ := b1; simp [he.eval e1, he.eval e2, run_bound q2 h2, run_bound q1 h1]
        | some x3 =>
          obtain ⟨k3, z3, e3, q3⟩ := b3
          cases oh with
          | none => simp at hom
          | some x2 =>
            obtain ⟨k2, z2, e2, q2⟩ := b2
            cases ol with
            | none => simp only [bnd] at b1; subst b1; simp [he.eval e2, he.eval e3, run_bound q3 h3, run_bound q2 h2]
            | some x1 => obtain ⟨k1, z1, e1, q1⟩ := b1; simp [he.eval e1, he.eval e2, he.eval e3, run_bound q3 h3, run_bound q2 h2, run_bound q1 h1]
      have e1 : a.eval x = .slice h.a h.len h.cap := he.eval hx
      simp only [execOp, Instr.sliceAt, Instr.slice, run_underlying ht.und, Sem.run_bind, Result.andThen_ok, e1, hb, run_sizeOf ht.size]
      simp [SH.cut, SH.v]
theorem y_sliceStr {t : TypeId} (ht : P.underlying t = some .string) {x : Operand} {s : ByteArray} (hx : ev ρ x = some (.string s)) {ol oh : Option Operand} (lo hi : Nat) (b1 : bnd ρ ol 0 lo) (b2 : bnd ρ oh s.size hi)
    (h1 : lo ≤ hi) (h2 : hi ≤ s.size) : Yld P ι F n ρ l ⟨dst, .slice t x ol oh none, ty, pos, aft, gd⟩ (.string (s.extract lo hi)) := fun a w he hw => by
      have hb : (Instr.sliceBounds false s.size s.size (ol.map a.eval) (oh.map a.eval) none).run P w = .ok (lo, hi, s.size) w := by
        unfold Instr.sliceBounds
        cases oh with
        | none =>
          simp only [bnd] at b2; subst b2
          cases ol with
          | none => simp only [bnd] at b1; subst b1; simp
          | some x1 => obtain ⟨k1, z1, e1, q1⟩ := b1; simp [he.eval e1, run_bound q1 h1]
        | some x2 =>
          obtain ⟨k2, z2, e2, q2⟩ := b2
          cases ol with
          | none => simp only [bnd] at b1; subst b1; simp [he.eval e2, run_bound q2 h2]
          | some x1 => obtain ⟨k1, z1, e1, q1⟩ := b1; simp [he.eval e1, he.eval e2, run_bound q2 h2, run_bound q1 h1]
      have e1 : a.eval x = .string s := he.eval hx
      simp only [execOp, Instr.sliceAt, Instr.slice, run_underlying ht, Sem.run_bind, Result.andThen_ok, e1, Option.map_none]
      simp [hb]
theorem Rd.src {α : Type} {E : Enc α} {h : SH} {xs : List α} {w : World} (hr : Rd E h xs w) {tx e : TypeId} (ht : P.underlying tx = some (.slice e)) : Src P E.sz tx h.v xs.length (flat E xs) w := by
  have hl := flat_length E xs
  have h1 := flat_one E xs
  rcases hr.adr with ha | ⟨h0, hc⟩
  · unfold SH.v
    rw [ha, hr.len]
    exact Src.ofSlice w ht _ _ _ _ hl (fun j u hu => by rw [add_lit]; exact hr.cell j u hu) h1
  · subst h0
    unfold SH.v
    have h2 : h.len = 0 := by simpa using hr.len
    rw [h2]
    cases h.a with
    | none => exact Src.ofNil w ht _
    | some ad => exact Src.ofSlice w ht ad 0 h.cap [] (by simp) (fun j u hu => by simp at hu) (by simp)
structure TyEl (P : Program) (t : TypeId) {α : Type} (E : Enc α) (by_ : Nat) : Prop where
  und : P.underlying t = some (.slice E.ty)
  info : ∃ z, (P.info? E.ty).map (fun i => (i.zero, i.size, i.bytes)) = some (some z, E.sz, by_) ∧ z.cells.size = E.sz
theorem info_get {t : TypeId} {z : Value} {s b : Nat} (h : (P.info? t).map (fun i => (i.zero, i.size, i.bytes)) = some (some z, s, b)) : ∃ i, P.info? t = some i ∧ i.zero = some z ∧ i.size = s ∧ i.bytes = b := by
  cases hq : P.info? t with
  | none => simp [hq] at h
  | some i => simp [hq] at h; exact ⟨i, rfl, h.1, h.2.1, h.2.2⟩
theorem Holds.draw1 {w : World} {A : HP} (h : Holds ι w A) : Holds ι w.drew A := h.drew (w.drawn + 1)
theorem Sl.pts {α : Type} {E : Enc α} {h : SH} {xs : List α} {w : World} {F : HP} (hw : Holds ι w (sep (Sl E h xs) F)) :
    h.len = xs.length ∧ ((xs = [] ∧ h.cap = 0) ∨ ∃ b pre post, h.a = some ⟨b, pre.length, none⟩ ∧ xs.length ≤ h.cap ∧ (h.cap - xs.length) * E.sz ≤ post.length ∧ Holds ι w (sep (Pts b (pre ++ flat E xs ++ post) E.ty) F)) := by
  obtain ⟨g1, g2, r, x0, s, x1, x2, hj, ⟨hl, hh⟩, hf⟩ := hw
  refine ⟨hl, hh.imp id ?_⟩
  rintro ⟨b, pre, post, a1, a2, a3, a4⟩
  exact ⟨b, pre, post, a1, a2, a3, g1, g2, r, x0, s, x1, x2, hj, a4, hf⟩
theorem nextslicecap_any {need old : Nat} (h : old < need) {b : Nat} (hb : need * b ≤ 140737488355328) : Builtin.nextslicecap need old * b ≤ 281474976710656 := growslice_fits h hb
theorem run_appendE {α : Type} {E : Enc α} {h h2 : SH} {xs ys : List α} {w : World} {G : HP} (hw : Holds ι w (sep (Sl E h xs) G)) (hr : Rd E h2 ys w) {t tx ty : TypeId} {by_ : Nat} (ht : TyEl P t E by_) {e' : TypeId} (htx : P.underlying tx = some (.slice e'))
    (h63 : xs.length + ys.length ≤ 9223372036854775807) (hby : (xs.length + ys.length) * by_ ≤ 140737488355328) :
    ∃ (h' : SH) (w' : World), (Builtin.append_ #[t, tx] ty #[h.v, h2.v]).run P w = .ok h'.v w' ∧ Holds ι w' (sep (Sl E h' (xs ++ ys)) G) := by
  obtain ⟨z, hinfo, hz⟩ := ht.info
  obtain ⟨i, hi, hz0, hsz, hbs⟩ := info_get hinfo
  have hsrc := hr.src (P := P) htx
  rw [← hsz] at hsrc
  obtain ⟨hl, hh⟩ := Sl.pts hw
  have grow : ∀ (hold : (Builtin.firstCells i.size xs.length (.slice h.a xs.length h.cap)).run P w.drew = .ok (flat E xs).toArray w.drew) (hg : h.cap < xs.length + ys.length), ∃ (h' : SH) (w' : World), (Builtin.append_ #[t, tx] ty #[h.v, h2.v]).run P w = .ok h'.v w' ∧ Holds ι w' (sep (Sl E h' (xs ++ ys)) G) := by
    intro hold hg
    have hrun := run_append_grow_src (P := P) w t tx ty E.ty i z ht.und hi hz0 h.a xs.length h.cap (flat E xs) hold h2.v ys.length (flat E ys) hsrc hg (by omega) (nextslicecap_any hg (by rw [hbs]; exact hby))
    refine ⟨⟨some ⟨w.heap.size, 0, none⟩, xs.length + ys.length, grownCap w (xs.length + ys.length) h.cap E.ty⟩, (w.drew.alloc (.cells ((flat E xs ++ flat E ys).toArray ++ Builtin.zeroCells z.cells (grownCap w (xs.length + ys.length) h.cap E.ty - (xs.length + ys.length))) E.ty)), ?_, ?_⟩
    · unfold SH.v at hrun ⊢
      rw [hl]; exact hrun
    · have hge := grownCap_ge w (xs.length + ys.length) h.cap E.ty
      have hG : Holds ι w.drew G := (hw.ent Ent.right).draw1
      have hn := hG.new (flat E (xs ++ ys) ++ (Builtin.zeroCells z.cells (grownCap w (xs.length + ys.length) h.cap E.ty - (xs.length + ys.length))).toList) E.ty
      have hq : (Builtin.zeroCells z.cells (grownCap w (xs.length + ys.length) h.cap E.ty - (xs.length + ys.length))).toList.length = (grownCap w (xs.length + ys.length) h.cap E.ty - (xs.length + ys.length)) * E.sz := by
        rw [Array.length_toList, size_zeroCells, hz]
      have e : (flat E (xs ++ ys) ++ (Builtin.zeroCells z.cells (grownCap w (xs.length + ys.length) h.cap E.ty - (xs.length + ys.length))).toList).toArray = ((flat E xs ++ flat E ys).toArray ++ Builtin.zeroCells z.cells (grownCap w (xs.length + ys.length) h.cap E.ty - (xs.length + ys.length))) := by
        apply Array.ext'; simp [flat_append]
      rw [e] at hn
      refine Holds.ent hn (Ent.sep ?_ Ent.rfl)
      have := Sl.mk1 (E := E) w.drew.heap.size (xs ++ ys) (grownCap w (xs.length + ys.length) h.cap E.ty) (Builtin.zeroCells z.cells (grownCap w (xs.length + ys.length) h.cap E.ty - (xs.length + ys.length))).toList (by simpa using hge) (by rw [hq]; simp)
      simpa using this
  rcases hh with ⟨rfl, hc⟩ | ⟨b, pre, post, a1, a2, a3, hP⟩
  · by_cases hy : ys = []
    · subst hy
      refine ⟨⟨h.a, 0, 0⟩, w, ?_, ?_⟩
      · have hsk := hsrc.kind
        have hlen := hsrc.len w
        have hcl := hsrc.cells
        unfold SH.v at *
        rw [hl, hc]
        simp only [flat_nil, List.length_nil] at hcl hlen
        rcases hsk with ⟨e'', hk⟩ | hk <;> cases ha : h.a <;> simp [Builtin.append_, run_underlying ht.und, run_underlying hk, sizeOf, typeInfo, hi, hlen, hcl, storeCells]
      · exact hw.ent (Ent.sep (fun r x _ => ⟨rfl, .inl ⟨rfl, rfl⟩⟩) Ent.rfl)
    · refine grow ?_ ?_
      · have hl0 : h.len = 0 := by simpa using hl
        cases ha : h.a with
        | none => simp [Builtin.firstCells, flat]
        | some ad =>
          have := run_firstCells_some (P := P) w.drew i.size 0 ad 0 h.cap [] (by simp) (fun j v hv => by simp at hv)
          simpa [flat] using this
      · rw [hc]; simp; exact List.length_pos_iff.2 hy
  · have hpt := (hP.ent Ent.left).pts
    by_cases hroom : xs.length + ys.length ≤ h.cap
    · have hyl : ys.length * E.sz ≤ post.length := by
        have : ys.length * E.sz ≤ (h.cap - xs.length) * E.sz := Nat.mul_le_mul_right _ (by omega)
        omega
      have hcells : (Builtin.firstCells i.size ys.length h2.v).run P w = .ok (flat E ys).toArray w := hsrc.cells
      have hst := run_storeCells_at P b (pre.length + xs.length * E.sz) E.ty (flat E ys) 0 (pre ++ flat E xs ++ post).toArray w hpt (by simp [flat_length]; omega) (flat_one E ys)
      simp only [Nat.add_zero] at hst
      refine ⟨⟨some ⟨b, pre.length, none⟩, xs.length + ys.length, h.cap⟩, w.setRow b (splice (pre ++ flat E xs ++ post) (pre.length + xs.length * E.sz) (flat E ys)).toArray, ?_, ?_⟩
      · have hlen := hsrc.len w
        unfold SH.v at *
        rw [hl, a1]
        have hsz' : i.size = E.sz := hsz
        rw [hsz'] at hcells
        rcases hsrc.kind with ⟨e'', hk⟩ | hk <;>
          (simp [Builtin.append_, run_underlying ht.und, run_underlying hk, sizeOf, typeInfo, hi, hlen, hroom, hsz', add_lit]
           rw [hcells]
           simp only [Result.andThen_ok]
           rw [hst]
           simp [splice, Result.andThen])
      · have hs := hP.set (splice (pre ++ flat E xs ++ post) (pre.length + xs.length * E.sz) (flat E ys))
        refine hs.ent (Ent.sep ?_ Ent.rfl)
        intro r x hx
        refine ⟨by simp, .inr ⟨b, pre, post.drop (ys.length * E.sz), rfl, by simpa using hroom, ?_, ?_⟩⟩
        · simp only [List.length_append, List.length_drop]
          have e1 : h.cap - (xs.length + ys.length) = h.cap - xs.length - ys.length := by omega
          rw [e1, Nat.sub_mul]; omega
        · have e : splice (pre ++ flat E xs ++ post) (pre.length + xs.length * E.sz) (flat E ys) = pre ++ flat E (xs ++ ys) ++ post.drop (ys.length * E.sz) := by
            unfold splice
            have e2 : pre.length + xs.length * E.sz = (pre ++ flat E xs).length := by simp [flat_length]
            rw [e2, List.take_left, List.drop_length_add_append, flat_length, flat_append]
            simp
          rw [← e]; exact hx
    · exact grow (by
        have := run_firstCells_some (P := P) w.drew i.size xs.length ⟨b, pre.length, none⟩ xs.length h.cap (flat E xs) (by rw [flat_length, hsz]) (fun j u hu => by
          rw [add_lit]
          have hd : (w.drew).heap[b]? = some (.cells (pre ++ flat E xs ++ post).toArray E.ty (0, 0)) := hpt
          exact cell_mid w.drew b pre _ post _ _ hd j u hu)
        rw [a1]; exact this) (by omega)
theorem vc_append (i : Nat) {α : Type} {E : Enc α} {h h2 : SH} {xs ys : List α} (hA : nth l i = some (Sl E h xs)) (j : Nat) {B : HP} (hB : nth l j = some B) (hv : Vis B (Rd E h2 ys)) {t tx : TypeId} {by_ : Nat} (ht : TyEl P t E by_) {e' : TypeId} (htx : P.underlying tx = some (.slice e'))
    {x y : Operand} (hx : ev ρ x = some h.v) (hy : ev ρ y = some h2.v) (h63 : xs.length + ys.length ≤ 9223372036854775807) (hby : (xs.length + ys.length) * by_ ≤ 140737488355328) (hd : Nat.blt d n = true)
    (g : ∀ h' : SH, VC ι F n (wpList P all Q rest) ((d, h'.v) :: ρ) (put l i (Sl E h' (xs ++ ys)))) :
    VC ι F n (wpList P all Q (⟨some d, .call { callee := .builtin .append, args := #[x, y], argTypes := #[t, tx] }, ty, pos, aft, none⟩ :: rest)) ρ l := fun a w he hw =>
  wpList_plain rfl fun K hK => by
    have h1 : Holds ι w (sep (Sl E h xs) (sep (seps (del l i)) F)) := (hw.ent (Ent.sep (Ent.out hA) Ent.rfl)).ent Ent.assoc
    obtain ⟨h', w', hrun, hw'⟩ := run_appendE (P := P) (ty := ty) h1 (hv ι w (VC.chunk hw hB)) ht htx h63 hby
    unfold Oper.wp execOp
    simp only [resolve, invoke, builtin, Sem.run_bind, Sem.run_pure, Result.andThen_ok, List.map_toArray, List.map_cons, List.map_nil, he.eval hx, he.eval hy, hrun]
    exact hK _ _ (g h' _ _ (he.put d hd _) ((hw'.ent Ent.assoc').ent (Ent.sep (Ent.back hA) Ent.rfl)))
end
end Go.Eng
