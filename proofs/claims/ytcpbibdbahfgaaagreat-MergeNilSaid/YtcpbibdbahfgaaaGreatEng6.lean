/-
 The engine's rule for a statement whose order is open: what only reads is taken first, out of chunks that stay till a certain store; all else comes up in each order that may be.
-/
import Derived.Test.YtcpbibdbahfgaaaGreatEng5
import Derived.OrdersHeld
set_option linter.unusedVariables false
set_option linter.unusedSimpArgs false
set_option autoImplicit false
namespace Go.Eng

section
variable {P : Program} {ops : Array Oper} {Q : Exit → Act → World → Prop} {S : Array Bool → World → Prop}
/-- No operation is listed ahead of one for which it waits. -/
def Closed (ops : Array Oper) (L : Array Bool) : Prop := ∀ j oj, ops[j]? = some oj → L.getD j false = true → ∀ e ∈ oj.after, Region.binds .any e = true → L.getD e.on false = true
def wpG (P : Program) (ops : Array Oper) (Q : Exit → Act → World → Prop) (S : Array Bool → World → Prop) : Nat → Array Bool → Act → World → Prop
 | 0, L, a, w => Region.ready .any ops L = [] ∧ Q .normal a w
 | fuel + 1, L, a, w =>
  (Region.ready .any ops L = [] → Q .normal a w) ∧
  ∀ i ∈ Region.ready .any ops L, wpOp P ops Q i (fun a' w' => S (L.setIfInBounds i true) w' ∧ wpG P ops Q S fuel (L.setIfInBounds i true) a' w') a w
theorem wpAny_of_G : ∀ (fuel : Nat) (L : Array Bool) (a : Act) (w : World), wpG P ops Q S fuel L a w → wpAny P .any ops Q fuel L a w
 | 0, _, _, _, h => h
 | fuel + 1, _, _, _, h => ⟨h.1, fun i hi => wpOp_mono (fun a' w' h' => wpAny_of_G fuel _ a' w' h'.2) (h.2 i hi)⟩
theorem getD_set (L : Array Bool) (i j : Nat) (h : (L.setIfInBounds i true).getD j false = true) : j = i ∨ L.getD j false = true := by
 by_cases hj : i = j
 ·exact .inl hj.symm
 ·right
  simp only [Array.getD_eq_getD_getElem?] at h ⊢
  rwa [Array.getElem?_setIfInBounds_ne hj] at h
theorem getD_set' (L : Array Bool) (i j : Nat) (h : L.getD j false = true) : (L.setIfInBounds i true).getD j false = true := by
 by_cases hj : i = j
 ·subst hj
  simp only [Array.getD_eq_getD_getElem?] at h ⊢
  rw [Array.getElem?_setIfInBounds]
  by_cases hs : i < L.size
  ·simp [hs]
  ·simp [hs] at h
 ·simp only [Array.getD_eq_getD_getElem?] at h ⊢
  rwa [Array.getElem?_setIfInBounds_ne hj]
theorem Closed.set {L : Array Bool} (h : Closed ops L) {i : Nat} (hi : i ∈ Region.ready .any ops L) : Closed ops (L.setIfInBounds i true) := by
 intro j oj hj hl e he hb
 refine getD_set' _ _ _ ?_
 rcases getD_set L i j hl with rfl | hl
 ·obtain ⟨_, oi, hoi, hall⟩ := mem_ready.1 hi
  have : oj = oi := by rw [hj] at hoi; exact Option.some.inj hoi
  subst this
  exact hall e he hb
 ·exact h j oj hj hl e he hb
/-- In state 'a', in every later world, operation 'o' leaves 'v' in its temporary and does nothing else. -/
def YieldsG (P : Program) (ops : Array Oper) (S : Array Bool → World → Prop) (i : Nat) (o : Oper) (v : Value) (a : Act) : Prop :=
 (Region.wanted o (yielded ops a.tmps) = true ∧ ∀ L, Closed ops L → L.getD i false = false → ∀ w, S L w → (execOp a.eval o).run P w = .ok (.value v) w) ∨
 (Region.wanted o (yielded ops a.tmps) = false ∧ v = undef)
theorem YieldsG.to_if {i : Nat} {o : Oper} {v : Value} {a : Act} (h : YieldsG P ops S i o v a) : YieldsIf P ops (fun w => ∃ L, Closed ops L ∧ L.getD i false = false ∧ S L w) o v a :=
 h.imp (fun ⟨h1, h2⟩ => ⟨h1, fun w ⟨L, a, b, c⟩ => h2 L a b w c⟩) id
theorem YieldsG.of_if {i : Nat} {o : Oper} {v : Value} {a : Act} (h : YieldsIf P ops (fun w => ∃ L, Closed ops L ∧ L.getD i false = false ∧ S L w) o v a) : YieldsG P ops S i o v a :=
 h.imp (fun ⟨h1, h2⟩ => ⟨h1, fun L a b w c => h2 w ⟨L, a, b, c⟩⟩) id
theorem ready_unlisted {i : Nat} {L : Array Bool} (hi : i ∈ Region.ready .any ops L) : L.getD i false = false := by
 have h0 := (mem_ready.1 hi).1
 rcases Nat.lt_or_ge i L.size with h' | h'
 ·simp [h'] at h0 ⊢; exact h0
 ·simp [Array.getElem?_eq_none h'] at h0
theorem wpG_first {i : Nat} {oi : Oper} {v : Value} (hi : ops[i]? = some oi) (hsel : ∀ (j : Nat) (o : Oper) cs b, ops[j]? = some o → o.op ≠ .select cs b)
  (hQ : ∀ c a w, Q (.panic c) (a.put oi.dst v) w → Q (.panic c) a w) (hSi : ∀ L w, S L w → S (L.setIfInBounds i true) w) :
  ∀ (fuel : Nat) (L : Array Bool) (a : Act) (w : World), Closed ops L →
   (∀ j oj, ops[j]? = some oj → j ≠ i → L.getD j true = false → (∀ e ∈ oj.after, Region.binds .any e = true → e.on ≠ i) → oi.apart ops oj = true) →
   i ∈ Region.ready .any ops L → YieldsG P ops S i oi v a → S L w → (∀ (j : Nat) (L : Array Bool) (w : World), j ≠ i → S ((L.setIfInBounds i true).setIfInBounds j true) w → S (L.setIfInBounds j true) w) →
   wpG P ops Q S fuel (L.setIfInBounds i true) (a.put oi.dst v) w → wpG P ops Q S (fuel + 1) L a w := by
 intro fuel
 induction fuel with
 | zero =>
  intro L a w hc _ hr hy hS _ H
  refine ⟨fun h => (by rw [h] at hr; cases hr), fun j hj => ?_⟩
  by_cases hji : j = i
  ·subst hji; exact hy.to_if.wpOp hi ⟨L, hc, ready_unlisted hr, hS⟩ ⟨hSi L w hS, H⟩
  ·have := ready_mono hj hji
   rw [H.1] at this
   cases this
 | succ fuel ih =>
  intro L a w hc hfree hr hy hS hSj H
  refine ⟨fun h => (by rw [h] at hr; cases hr), fun j hj => ?_⟩
  by_cases hji : j = i
  ·subst hji; exact hy.to_if.wpOp hi ⟨L, hc, ready_unlisted hr, hS⟩ ⟨hSi L w hS, H⟩
  ·have h1 := H.2 j (ready_mono hj hji)
   obtain ⟨hjun, oj, hoj, hall⟩ := mem_ready.1 hj
   have hnot : ∀ e ∈ oj.after, Region.binds .any e = true → e.on ≠ i := fun e he hb heq => by
    have h1 := hall e he hb
    have h0 := (mem_ready.1 hr).1
    rw [heq] at h1
    rcases Nat.lt_or_ge i L.size with h' | h'
    ·simp [h'] at h0 h1; rw [h0] at h1; cases h1
    ·simp [Array.getElem?_eq_none h'] at h1
   have h2 := wpOp_putIf hoj (hfree j oj hoj hji hjun hnot) (fun cs b => hsel i oi cs b hi) (fun cs b => hsel j oj cs b hoj) hQ hy.to_if h1
   have hfree' : ∀ k ok, ops[k]? = some ok → k ≠ i → (L.setIfInBounds j true).getD k true = false →
     (∀ e ∈ ok.after, Region.binds .any e = true → e.on ≠ i) → oi.apart ops ok = true := fun k ok hk hki hun hno => by
    refine hfree k ok hk hki ?_ hno
    by_cases hjk : j = k
    ·subst hjk; exact hjun
    ·rw [getD_set_ne true hjk] at hun; exact hun
   refine wpOp_mono (fun a' w' h3 => ?_) h2
   have hS' := hSj j L w' hji h3.2.1
   refine ⟨hS', ih (L.setIfInBounds j true) a' w' (hc.set hj) hfree' (ready_mono hr (Ne.symm hji)) (YieldsG.of_if h3.1) hS' hSj ?_⟩
   rw [Array.setIfInBounds_comm _ _ hji]
   exact h3.2.2
end

/-- What stays to be read till operation 'st' is carried out. -/
def Stay (ι : Io) (lS : List HP) (st : Option Nat) (L : Array Bool) (w : World) : Prop := Holds ι w (sep (seps []) emp) ∧ ((∃ s, st = some s ∧ L.getD s false = true) ∨ Holds ι w (sep (seps lS) emp))
theorem base {A B : HP} : Ent (sep A B) (sep (seps []) emp) := fun r x _ => ⟨fun _ => none, x, fun _ => .inr ⟨rfl, rfl⟩, trivial, trivial⟩
/-- A drawn region, some of its operations listed. -/
def VA (P : Program) (ops : Array Oper) (Q : Exit → Act → World → Prop) (ι : Io) (F : HP) (n : Nat) (lS : List HP) (st : Option Nat) (fuel : Nat) (L : Array Bool) (ρ : List (Nat × Value)) (l : List HP) : Prop :=
 Closed ops L → VC ι F n (fun a w => Stay ι lS st L w → wpG P ops Q (Stay ι lS st) fuel L a w) ρ l
/-- It is another one than that, and that one waits for it. -/
def reach (ops : Array Oper) : Nat → Nat → Nat → Bool
 | 0, _, _ => false
 | f + 1, s, i => match ops[s]? with
  | some o => o.after.any fun e => Region.binds .any e && (Nat.beq e.on i || reach ops f e.on i)
  | none => false
def ahead (ops : Array Oper) (st : Option Nat) (i : Nat) : Bool := match st with
 | none => true
 | some s => !Nat.beq i s && reach ops 3 s i
theorem reach_closed {ops : Array Oper} {L : Array Bool} (hc : Closed ops L) : ∀ (f s i : Nat), reach ops f s i = true → L.getD s false = true → L.getD i false = true
 | 0, _, _, h, _ => by simp [reach] at h
 | f + 1, s, i, h, hs => by
  simp only [reach] at h
  cases ho : ops[s]? with
  | none => simp [ho] at h
  | some o =>
   simp only [ho] at h
   obtain ⟨e, he1, he2⟩ := Array.any_eq_true'.1 h
   simp only [Bool.and_eq_true, Bool.or_eq_true] at he2
   have h1 := hc s o ho hs e he1 he2.1
   rcases he2.2 with h2 | h2
   ·rw [Nat.eq_of_beq_eq_true h2] at h1; exact h1
   ·exact reach_closed hc f e.on i h2 h1
section
variable {P : Program} {ι : Io} {F : HP} {n : Nat} {ρ : List (Nat × Value)} {l lS : List HP} {K : Act → World → Prop} {Q : Exit → Act → World → Prop} {ops : Array Oper} {st : Option Nat} {fuel : Nat} {L : Array Bool}
theorem vc_draw {id : Nat} {os : List Oper} (hm : P.follows .mixedOrders = true) (lS : List HP) (st : Option Nat) (is : List Nat) {r : List HP} (hp : pick is l = some (lS, r))
  (h : VA P os.toArray Q ι F n lS st os.length (Array.replicate os.length false) ρ l) : VC ι F n ((Code.region id os.toArray true).wp P Q) ρ l := fun a w he hw => by
 refine wp_region_any hm (wpAny_of_G (S := Stay ι lS st) _ _ _ _ ?_)
 have hc : Closed os.toArray (Array.replicate os.length false) := by
  intro j oj hj hl
  simp only [Array.getD_eq_getD_getElem?, Array.getElem?_replicate] at hl
  split at hl <;> simp at hl
 have := h hc a { w with drawn := w.drawn + 1 } he (hw.drew _) ⟨(hw.drew (w.drawn + 1)).ent base, .inr ((((hw.drew (w.drawn + 1)).ent Ent.left).ent (Ent.pick hp)).ent (Ent.left.trans (Ent.empL.trans Ent.comm)))⟩
 simpa using this
theorem ne_of_beq {i s : Nat} (h : Nat.beq i s = false) : i ≠ s := fun e => by subst e; simp at h
theorem setget {L : Array Bool} {i s : Nat} (hne : i ≠ s) : (L.setIfInBounds i true).getD s false = L.getD s false := by
 simp only [Array.getD_eq_getD_getElem?]
 rw [Array.getElem?_setIfInBounds_ne hne]
theorem Stay.set {L : Array Bool} {w : World} (h : Stay ι lS st L w) (i : Nat) : Stay ι lS st (L.setIfInBounds i true) w :=
 ⟨h.1, h.2.imp (fun ⟨s, e, h⟩ => ⟨s, e, getD_set' _ _ _ h⟩) id⟩
theorem Stay.back {i j : Nat} {L : Array Bool} {w : World} (hj : j ≠ i) (hne : ∀ s, st = some s → i ≠ s) (h : Stay ι lS st ((L.setIfInBounds i true).setIfInBounds j true) w) : Stay ι lS st (L.setIfInBounds j true) w := by
 refine ⟨h.1, h.2.imp ?_ id⟩
 rintro ⟨s, hs, h⟩
 refine ⟨s, hs, ?_⟩
 rw [Array.setIfInBounds_comm _ _ (Ne.symm hj), setget (hne s hs)] at h
 exact h
theorem ahead_ne {i : Nat} (hst : ahead ops st i = true) (s : Nat) (hs : st = some s) : i ≠ s := by
 subst hs
 simp only [ahead, Bool.and_eq_true] at hst
 exact ne_of_beq (by simpa using hst.1)
def notKill (st : Option Nat) (i : Nat) : Bool := match st with
 | none => true
 | some s => !Nat.beq i s
theorem notKill_ne {i : Nat} (hst : notKill st i = true) (s : Nat) (hs : st = some s) : i ≠ s := by
 subst hs
 exact ne_of_beq (by simpa [notKill] using hst)
/-- One that only reads is taken first. -/
theorem va_take (i : Nat) {d : Nat} {op : Op} {ty : TypeId} {pos : String} {aft : Array Edge} {g : Option (Nat × Bool)} {v : Value} (hi : ops[i]? = some ⟨some d, op, ty, pos, aft, g⟩) (hs : Region.noSelect ops = true) (hf : Region.free .any ops L i = true) (hr : (Region.ready .any ops L).contains i = true)
  (hst : ahead ops st i = true) (hQ : ∀ c a w, Q (.panic c) (a.put (some d) v) w → Q (.panic c) a w)
  (hg : ∀ a, Env n ρ a → Region.wanted ⟨some d, op, ty, pos, aft, g⟩ (yielded ops a.tmps) = true) (hy : Yld P ι emp n ρ lS ⟨some d, op, ty, pos, aft, g⟩ v) (hd : Nat.blt d n = true)
  (h : VA P ops Q ι F n lS st fuel (L.setIfInBounds i true) ((d, v) :: ρ) l) : VA P ops Q ι F n lS st (fuel + 1) L ρ l := fun hc a w he hw hS => by
 have hr' : i ∈ Region.ready .any ops L := by simpa using hr
 refine wpG_first (v := v) hi (Region.noSelect_spec hs) hQ (fun L w hS => hS.set i) fuel L a w hc (Region.free_spec hi hf) hr' (.inl ⟨hg a he, fun L' hc' hu w' hS' => ?_⟩) hS (fun j L' w' hj hS' => hS'.back hj (ahead_ne hst)) (h (hc.set hr') _ _ (he.put d hd v) hw (hS.set i))
 rcases hS'.2 with ⟨s, hs, hS2⟩ | hS2
 ·exfalso
  subst hs
  simp only [ahead, Bool.and_eq_true] at hst
  have := reach_closed hc' 3 s i hst.2 hS2
  rw [hu] at this
  cases this
 ·exact hy a w' he hS2
/-- One that asks nothing of memory. -/
theorem va_takeP (i : Nat) {d : Nat} {op : Op} {ty : TypeId} {pos : String} {aft : Array Edge} {g : Option (Nat × Bool)} {v : Value} (hi : ops[i]? = some ⟨some d, op, ty, pos, aft, g⟩) (hs : Region.noSelect ops = true) (hf : Region.free .any ops L i = true) (hr : (Region.ready .any ops L).contains i = true)
  (hst : notKill st i = true) (hQ : ∀ c a w, Q (.panic c) (a.put (some d) v) w → Q (.panic c) a w)
  (hg : ∀ a, Env n ρ a → Region.wanted ⟨some d, op, ty, pos, aft, g⟩ (yielded ops a.tmps) = true) (hy : Yld P ι emp n ρ [] ⟨some d, op, ty, pos, aft, g⟩ v) (hd : Nat.blt d n = true)
  (h : VA P ops Q ι F n lS st fuel (L.setIfInBounds i true) ((d, v) :: ρ) l) : VA P ops Q ι F n lS st (fuel + 1) L ρ l := fun hc a w he hw hS => by
 have hr' : i ∈ Region.ready .any ops L := by simpa using hr
 exact wpG_first (v := v) hi (Region.noSelect_spec hs) hQ (fun L w hS => hS.set i) fuel L a w hc (Region.free_spec hi hf) hr' (.inl ⟨hg a he, fun L' hc' hu w' hS' => hy a w' he hS'.1⟩) hS (fun j L' w' hj hS' => hS'.back hj (notKill_ne hst)) (h (hc.set hr') _ _ (he.put d hd v) hw (hS.set i))
/-- One that isn't wanted is passed by. -/
theorem va_skip (i : Nat) {d : Nat} {op : Op} {ty : TypeId} {pos : String} {aft : Array Edge} {g : Option (Nat × Bool)} (hi : ops[i]? = some ⟨some d, op, ty, pos, aft, g⟩) (hs : Region.noSelect ops = true) (hf : Region.free .any ops L i = true) (hr : (Region.ready .any ops L).contains i = true)
  (hst : notKill st i = true) (hQ : ∀ c a w, Q (.panic c) (a.put (some d) undef) w → Q (.panic c) a w)
  (hg : ∀ a, Env n ρ a → Region.wanted ⟨some d, op, ty, pos, aft, g⟩ (yielded ops a.tmps) = false) (hd : Nat.blt d n = true)
  (h : VA P ops Q ι F n lS st fuel (L.setIfInBounds i true) ((d, undef) :: ρ) l) : VA P ops Q ι F n lS st (fuel + 1) L ρ l := fun hc a w he hw hS => by
 have hr' : i ∈ Region.ready .any ops L := by simpa using hr
 exact wpG_first (v := undef) hi (Region.noSelect_spec hs) hQ (fun L w hS => hS.set i) fuel L a w hc (Region.free_spec hi hf) hr' (.inr ⟨hg a he, rfl⟩) hS (fun j L' w' hj hS' => hS'.back hj (notKill_ne hst)) (h (hc.set hr') _ _ (he.put d hd undef) hw (hS.set i))
theorem va_split (t : Nat) {b : Bool} (hb : lk ρ t = some (.bool b)) (ht : b = true → VA P ops Q ι F n lS st fuel L ((t, .bool true) :: ρ) l) (hf : b = false → VA P ops Q ι F n lS st fuel L ((t, .bool false) :: ρ) l) : VA P ops Q ι F n lS st fuel L ρ l :=
 fun hc => vc_split t hb (fun e => ht e hc) (fun e => hf e hc)
theorem va_splitP (t : Nat) {p : Prop} [Decidable p] (hb : lk ρ t = some (.bool (decide p))) (ht : p → VA P ops Q ι F n lS st fuel L ((t, .bool true) :: ρ) l) (hf : ¬ p → VA P ops Q ι F n lS st fuel L ((t, .bool false) :: ρ) l) : VA P ops Q ι F n lS st fuel L ρ l :=
 fun hc => vc_splitP t hb (fun e => ht e hc) (fun e => hf e hc)
theorem va_splitN (t : Nat) {p : Prop} [Decidable p] (hb : lk ρ t = some (.bool (!decide p))) (ht : ¬ p → VA P ops Q ι F n lS st fuel L ((t, .bool true) :: ρ) l) (hf : p → VA P ops Q ι F n lS st fuel L ((t, .bool false) :: ρ) l) : VA P ops Q ι F n lS st fuel L ρ l :=
 fun hc => vc_splitN t hb (fun e => ht e hc) (fun e => hf e hc)
/-- A guard that is known. -/
theorem guarded {a : Act} (he : Env n ρ a) {o : Oper} {j t : Nat} {want b : Bool} (hg : o.guard = some (j, want)) (hj : (ops[j]?).bind (·.dst) = some t) (hb : lk ρ t = some (.bool b)) : Region.wanted o (yielded ops a.tmps) = (b == want) := by
 have hy : yielded ops a.tmps j = some b := by
  unfold yielded
  rw [hj]
  simp [he.val t _ hb]
 simp [Region.wanted, hg, hy]
theorem guardedU {a : Act} (he : Env n ρ a) {o : Oper} {j t : Nat} {want : Bool} (hg : o.guard = some (j, want)) (hj : (ops[j]?).bind (·.dst) = some t) (hb : lk ρ t = some undef) : Region.wanted o (yielded ops a.tmps) = false := by
 have hy : yielded ops a.tmps j = none := by
  unfold yielded
  rw [hj]
  simp [he.val t _ hb, undef]
 simp [Region.wanted, hg, hy]
/-! The same rules in few words. -/
theorem tpp (i : Nat) {d : Nat} {op : Op} {ty : TypeId} {pos : String} {aft : Array Edge} {v : Value} (h : VA P ops Q ι F n lS st fuel (L.setIfInBounds i true) ((d, v) :: ρ) l) (hi : ops[i]? = some ⟨some d, op, ty, pos, aft, none⟩ := by exact rfl) (hs : Region.noSelect ops = true := by kernel_rfl) (hf : Region.free .any ops L i = true := by kernel_rfl) (hr : (Region.ready .any ops L).contains i = true := by kernel_rfl) (hst : notKill st i = true := by kernel_rfl) (hQ : ∀ c a w, Q (.panic c) (a.put (some d) v) w → Q (.panic c) a w := by exact fun _ _ _ h => h) (hp : pureOp ρ op = some v := by exact rfl) (hd : Nat.blt d n = true := by exact rfl) : VA P ops Q ι F n lS st (fuel + 1) L ρ l :=
 va_takeP i hi hs hf hr hst hQ (fun _ _ => rfl) (y_p _ hp) hd h
theorem tgp (i : Nat) (t : Nat) {d : Nat} {op : Op} {ty : TypeId} {pos : String} {aft : Array Edge} {j : Nat} {want b : Bool} {v : Value} (h : VA P ops Q ι F n lS st fuel (L.setIfInBounds i true) ((d, v) :: ρ) l) (hi : ops[i]? = some ⟨some d, op, ty, pos, aft, (some (j, want))⟩ := by exact rfl) (hs : Region.noSelect ops = true := by kernel_rfl) (hf : Region.free .any ops L i = true := by kernel_rfl) (hr : (Region.ready .any ops L).contains i = true := by kernel_rfl) (hst : notKill st i = true := by kernel_rfl) (hQ : ∀ c a w, Q (.panic c) (a.put (some d) v) w → Q (.panic c) a w := by exact fun _ _ _ h => h) (hj : (ops[j]?).bind (·.dst) = some t := by exact rfl) (hb : lk ρ t = some (.bool b) := by exact rfl) (hw : (b == want) = true := by exact rfl) (hp : pureOp ρ op = some v := by exact rfl) (hd : Nat.blt d n = true := by exact rfl) : VA P ops Q ι F n lS st (fuel + 1) L ρ l :=
 va_takeP i hi hs hf hr hst hQ (fun _ he => (guarded he rfl hj hb).trans hw) (y_p _ hp) hd h
theorem tp (i : Nat) {d : Nat} {op : Op} {ty : TypeId} {pos : String} {aft : Array Edge} {v : Value} (hi : ops[i]? = some ⟨some d, op, ty, pos, aft, none⟩) (hy : Yld P ι emp n ρ [] ⟨some d, op, ty, pos, aft, none⟩ v) (h : VA P ops Q ι F n lS st fuel (L.setIfInBounds i true) ((d, v) :: ρ) l) (hs : Region.noSelect ops = true := by kernel_rfl) (hf : Region.free .any ops L i = true := by kernel_rfl) (hr : (Region.ready .any ops L).contains i = true := by kernel_rfl) (hst : notKill st i = true := by kernel_rfl) (hQ : ∀ c a w, Q (.panic c) (a.put (some d) v) w → Q (.panic c) a w := by exact fun _ _ _ h => h) (hd : Nat.blt d n = true := by exact rfl) : VA P ops Q ι F n lS st (fuel + 1) L ρ l :=
 va_takeP i hi hs hf hr hst hQ (fun _ _ => rfl) hy hd h
theorem tg (i : Nat) (t : Nat) {d : Nat} {op : Op} {ty : TypeId} {pos : String} {aft : Array Edge} {j : Nat} {want b : Bool} {v : Value} (hi : ops[i]? = some ⟨some d, op, ty, pos, aft, (some (j, want))⟩) (hy : Yld P ι emp n ρ [] ⟨some d, op, ty, pos, aft, (some (j, want))⟩ v) (h : VA P ops Q ι F n lS st fuel (L.setIfInBounds i true) ((d, v) :: ρ) l) (hs : Region.noSelect ops = true := by kernel_rfl) (hf : Region.free .any ops L i = true := by kernel_rfl) (hr : (Region.ready .any ops L).contains i = true := by kernel_rfl) (hst : notKill st i = true := by kernel_rfl) (hQ : ∀ c a w, Q (.panic c) (a.put (some d) v) w → Q (.panic c) a w := by exact fun _ _ _ h => h) (hj : (ops[j]?).bind (·.dst) = some t := by exact rfl) (hb : lk ρ t = some (.bool b) := by exact rfl) (hw : (b == want) = true := by exact rfl) (hd : Nat.blt d n = true := by exact rfl) : VA P ops Q ι F n lS st (fuel + 1) L ρ l :=
 va_takeP i hi hs hf hr hst hQ (fun _ he => (guarded he rfl hj hb).trans hw) hy hd h
theorem tk (i : Nat) {d : Nat} {op : Op} {ty : TypeId} {pos : String} {aft : Array Edge} {v : Value} (hi : ops[i]? = some ⟨some d, op, ty, pos, aft, none⟩) (hy : Yld P ι emp n ρ lS ⟨some d, op, ty, pos, aft, none⟩ v) (h : VA P ops Q ι F n lS st fuel (L.setIfInBounds i true) ((d, v) :: ρ) l) (hs : Region.noSelect ops = true := by kernel_rfl) (hf : Region.free .any ops L i = true := by kernel_rfl) (hr : (Region.ready .any ops L).contains i = true := by kernel_rfl) (hst : ahead ops st i = true := by kernel_rfl) (hQ : ∀ c a w, Q (.panic c) (a.put (some d) v) w → Q (.panic c) a w := by exact fun _ _ _ h => h) (hd : Nat.blt d n = true := by exact rfl) : VA P ops Q ι F n lS st (fuel + 1) L ρ l :=
 va_take i hi hs hf hr hst hQ (fun _ _ => rfl) hy hd h
theorem tkg (i : Nat) (t : Nat) {d : Nat} {op : Op} {ty : TypeId} {pos : String} {aft : Array Edge} {j : Nat} {want b : Bool} {v : Value} (hi : ops[i]? = some ⟨some d, op, ty, pos, aft, (some (j, want))⟩) (hy : Yld P ι emp n ρ lS ⟨some d, op, ty, pos, aft, (some (j, want))⟩ v) (h : VA P ops Q ι F n lS st fuel (L.setIfInBounds i true) ((d, v) :: ρ) l) (hs : Region.noSelect ops = true := by kernel_rfl) (hf : Region.free .any ops L i = true := by kernel_rfl) (hr : (Region.ready .any ops L).contains i = true := by kernel_rfl) (hst : ahead ops st i = true := by kernel_rfl) (hQ : ∀ c a w, Q (.panic c) (a.put (some d) v) w → Q (.panic c) a w := by exact fun _ _ _ h => h) (hj : (ops[j]?).bind (·.dst) = some t := by exact rfl) (hb : lk ρ t = some (.bool b) := by exact rfl) (hw : (b == want) = true := by exact rfl) (hd : Nat.blt d n = true := by exact rfl) : VA P ops Q ι F n lS st (fuel + 1) L ρ l :=
 va_take i hi hs hf hr hst hQ (fun _ he => (guarded he rfl hj hb).trans hw) hy hd h
theorem sk (i : Nat) (t : Nat) {d : Nat} {op : Op} {ty : TypeId} {pos : String} {aft : Array Edge} {j : Nat} {want b : Bool} (h : VA P ops Q ι F n lS st fuel (L.setIfInBounds i true) ((d, undef) :: ρ) l) (hi : ops[i]? = some ⟨some d, op, ty, pos, aft, (some (j, want))⟩ := by exact rfl) (hs : Region.noSelect ops = true := by kernel_rfl) (hf : Region.free .any ops L i = true := by kernel_rfl) (hr : (Region.ready .any ops L).contains i = true := by kernel_rfl) (hst : notKill st i = true := by kernel_rfl) (hQ : ∀ c a w, Q (.panic c) (a.put (some d) undef) w → Q (.panic c) a w := by exact fun _ _ _ h => h) (hj : (ops[j]?).bind (·.dst) = some t := by exact rfl) (hb : lk ρ t = some (.bool b) := by exact rfl) (hw : (b == want) = false := by exact rfl) (hd : Nat.blt d n = true := by exact rfl) : VA P ops Q ι F n lS st (fuel + 1) L ρ l :=
 va_skip i hi hs hf hr hst hQ (fun _ he => (guarded he rfl hj hb).trans hw) hd h
theorem sku (i : Nat) (t : Nat) {d : Nat} {op : Op} {ty : TypeId} {pos : String} {aft : Array Edge} {j : Nat} {want : Bool} (h : VA P ops Q ι F n lS st fuel (L.setIfInBounds i true) ((d, undef) :: ρ) l) (hi : ops[i]? = some ⟨some d, op, ty, pos, aft, (some (j, want))⟩ := by exact rfl) (hs : Region.noSelect ops = true := by kernel_rfl) (hf : Region.free .any ops L i = true := by kernel_rfl) (hr : (Region.ready .any ops L).contains i = true := by kernel_rfl) (hst : notKill st i = true := by kernel_rfl) (hQ : ∀ c a w, Q (.panic c) (a.put (some d) undef) w → Q (.panic c) a w := by exact fun _ _ _ h => h) (hj : (ops[j]?).bind (·.dst) = some t := by exact rfl) (hb : lk ρ t = some undef := by exact rfl) (hd : Nat.blt d n = true := by exact rfl) : VA P ops Q ι F n lS st (fuel + 1) L ρ l :=
 va_skip i hi hs hf hr hst hQ (fun _ he => guardedU he rfl hj hb) hd h
/-- An operation carried out in its turn. -/
theorem wpOp_of_list {i : Nat} {o : Oper} {a : Act} {w : World} {K : Act → World → Prop} (hi : ops[i]? = some o) (h : wpList P ops (Exit.then K Q) [o] a w) : wpOp P ops Q i K a w := by
 unfold wpOp
 simp only [hi]
 unfold wpList at h
 have hnil : wpList P ops (Exit.then K Q) [] = K := by funext a w; simp [wpList, Exit.then]
 rw [hnil] at h
 split at h
 ·rename_i hw
  rw [if_pos hw]
  rcases h with h | ⟨h1, h2⟩
  ·left
   unfold Oper.wp at *
   generalize (execOp a.eval o).run P w = r at *
   cases r with
   | ok m w' => cases m <;> first | exact h | exact Calls.mono h (fun e w'' he => by cases e <;> exact he)
   | halt x w' => cases x <;> exact h
  ·exact .inr ⟨h1, h2⟩
 ·rename_i hw
  rw [if_neg hw]; exact h
/-- Those that may come up now, one by one. -/
def VO (P : Program) (ops : Array Oper) (Q : Exit → Act → World → Prop) (ι : Io) (F : HP) (n : Nat) (lS : List HP) (st : Option Nat) (fuel : Nat) (L : Array Bool) (ρ : List (Nat × Value)) (l : List HP) (rs : List Nat) : Prop :=
 ∀ i ∈ rs, Closed ops (L.setIfInBounds i true) → VC ι F n (fun a w => Stay ι lS st L w → wpOp P ops Q i (fun a' w' => Stay ι lS st (L.setIfInBounds i true) w' ∧ wpG P ops Q (Stay ι lS st) fuel (L.setIfInBounds i true) a' w') a w) ρ l
theorem va_ready (rs : List Nat) (hr : Region.ready .any ops L = rs) (hne : rs.isEmpty = false) (h : VO P ops Q ι F n lS st fuel L ρ l rs) : VA P ops Q ι F n lS st (fuel + 1) L ρ l := fun hc a w he hw hS =>
 ⟨fun h0 => by rw [hr] at h0; subst h0; simp at hne, fun i hi => h i (by rw [← hr]; exact hi) (hc.set hi) a w he hw hS⟩
theorem vo_nil : VO P ops Q ι F n lS st fuel L ρ l [] := fun i hi => by cases hi
/-- The operation itself; behind it the rest. -/
def Next (P : Program) (ops : Array Oper) (Q : Exit → Act → World → Prop) (ι : Io) (lS : List HP) (st : Option Nat) (fuel : Nat) (L : Array Bool) : Act → World → Prop :=
 fun a' w' => Stay ι lS st L w' ∧ wpG P ops Q (Stay ι lS st) fuel L a' w'
theorem vo_cons {i : Nat} {rs : List Nat} {o : Oper} (hi : ops[i]? = some o) (h : Closed ops (L.setIfInBounds i true) → VC ι F n (wpList P ops (Exit.then (Next P ops Q ι lS st fuel (L.setIfInBounds i true)) Q) [o]) ρ l) (hs : VO P ops Q ι F n lS st fuel L ρ l rs) : VO P ops Q ι F n lS st fuel L ρ l (i :: rs) := fun j hj hc => by
 rcases List.mem_cons.1 hj with rfl | hj
 ·exact fun a w he hw _ => wpOp_of_list hi (h hc a w he hw)
 ·exact hs j hj hc
/-- What was to be read is still there; or nothing more is to be read of it. -/
theorem va_kept (hc : Closed ops L) (is : List Nat) {r : List HP} (hp : pick is l = some (lS, r)) (h : VA P ops Q ι F n lS st fuel L ρ l) : VC ι F n (Next P ops Q ι lS st fuel L) ρ l := fun a w he hw => by
 have hS : Stay ι lS st L w := ⟨hw.ent base, .inr (((hw.ent Ent.left).ent (Ent.pick hp)).ent (Ent.left.trans (Ent.empL.trans Ent.comm)))⟩
 exact ⟨hS, h hc a w he hw hS⟩
theorem va_gone (hc : Closed ops L) (hs : (match st with | some s => L.getD s false | none => false) = true) (h : VA P ops Q ι F n lS st fuel L ρ l) : VC ι F n (Next P ops Q ι lS st fuel L) ρ l := fun a w he hw => by
 have hS : Stay ι lS st L w := by
  refine ⟨hw.ent base, .inl ?_⟩
  cases st with
  | none => simp at hs
  | some s => exact ⟨s, rfl, hs⟩
 exact ⟨hS, h hc a w he hw hS⟩
theorem va_done (hr : (Region.ready .any ops L).isEmpty = true) (h : VC ι F n (Q .normal) ρ l) : VA P ops Q ι F n lS st fuel L ρ l := fun hc a w he hw hS => by
 have hr' : Region.ready .any ops L = [] := by simpa using hr
 cases fuel with
 | zero => exact ⟨hr', h a w he hw⟩
 | succ fuel => exact ⟨fun _ => h a w he hw, by rw [hr']; simp⟩
end
end Go.Eng
