/-
 The engine's rule for a statement whose order is open: what only reads is taken first, out of chunks that stay till a certain store; all else comes up in each order that may be.
-/
import Derived.Test.YtcpbibdbahfgaaaGreatSw1
import Derived.OrdersHeld
import GoSem.Extern.SlicesOverlaps
import Derived.Lib.Overlaps
import Derived.KernelRfl
import Derived.Test.YtcpbibdbahfgaaaGreatProg
import Derived.Laws.BytesArg
set_option linter.unusedVariables false
set_option linter.unusedSimpArgs false
set_option autoImplicit false
namespace Go.Eng
section
variable {P : Program} {ops : Array Oper} {Q : Exit → Act → World → Prop} {S : Array Bool → World → Prop}
def Closed (ops : Array Oper) (L : Array Bool) : Prop := ∀ j oj, ops[j]? = some oj → L.getD j false = true → ∀ e ∈ oj.after, Region.binds .any e = true → L.getD e.on false = true
def wpG (P : Program) (ops : Array Oper) (Q : Exit → Act → World → Prop) (S : Array Bool → World → Prop) : Nat → Array Bool → Act → World → Prop
 | 0, L, a, w => Region.ready .any ops L = [] ∧ Q .normal a w
 | fuel + 1, L, a, w =>
  (Region.ready .any ops L = [] → Q .normal a w) ∧
  ∀ i ∈ Region.ready .any ops L, wpOp P ops Q i (fun a' w' => S (L.setIfInBounds i true) w' ∧ wpG P ops Q S fuel (L.setIfInBounds i true) a' w') a w
theorem wpAny_of_G : ∀ (fuel : Nat) (L : Array Bool) (a : Act) (w : World), wpG P ops Q S fuel L a w → wpAny P .any ops Q fuel L a w
 | 0, _, _, _, h => h
 | fuel + 1, _, _, _, h => ⟨h.1, fun i hi => wpOp_mono (fun a' w' h' => wpAny_of_G fuel _ a' w' h'.2) (h.2 i hi)⟩
theorem getD_set (L : Array Bool) (i j : Nat) (h : (L.setIfInBounds i true).getD j false = true) : j = i ∨ L.getD j false = true := by
 by_cases hj : i = j
 ·exact .inl hj.symm
 ·right
  simp only [Array.getD_eq_getD_getElem?] at h ⊢
  rwa [Array.getElem?_setIfInBounds_ne hj] at h
theorem getD_set' (L : Array Bool) (i j : Nat) (h : L.getD j false = true) : (L.setIfInBounds i true).getD j false = true := by
 by_cases hj : i = j
 ·subst hj
  simp only [Array.getD_eq_getD_getElem?] at h ⊢
  rw [Array.getElem?_setIfInBounds]
  by_cases hs : i < L.size
  ·simp [hs]
  ·simp [hs] at h
 ·simp only [Array.getD_eq_getD_getElem?] at h ⊢
  rwa [Array.getElem?_setIfInBounds_ne hj]
theorem Closed.set {L : Array Bool} (h : Closed ops L) {i : Nat} (hi : i ∈ Region.ready .any ops L) : Closed ops (L.setIfInBounds i true) := by
 intro j oj hj hl e he hb
 refine getD_set' _ _ _ ?_
 rcases getD_set L i j hl with rfl | hl
 ·obtain ⟨_, oi, hoi, hall⟩ := mem_ready.1 hi
  have : oj = oi := by rw [hj] at hoi; exact Option.some.inj hoi
  subst this
  exact hall e he hb
 ·exact h j oj hj hl e he hb
def YieldsG (P : Program) (ops : Array Oper) (S : Array Bool → World → Prop) (i : Nat) (o : Oper) (v : Value) (a : Act) : Prop :=
 (Region.wanted o (yielded ops a.tmps) = true ∧ ∀ L, Closed ops L → L.getD i false = false → ∀ w, S L w → (execOp a.eval o).run P w = .ok (.value v) w) ∨
 (Region.wanted o (yielded ops a.tmps) = false ∧ v = undef)
theorem YieldsG.to_if {i : Nat} {o : Oper} {v : Value} {a : Act} (h : YieldsG P ops S i o v a) : YieldsIf P ops (fun w => ∃ L, Closed ops L ∧ L.getD i false = false ∧ S L w) o v a :=
 h.imp (fun ⟨h1, h2⟩ => ⟨h1, fun w ⟨L, a, b, c⟩ => h2 L a b w c⟩) id
theorem YieldsG.of_if {i : Nat} {o : Oper} {v : Value} {a : Act} (h : YieldsIf P ops (fun w => ∃ L, Closed ops L ∧ L.getD i false = false ∧ S L w) o v a) : YieldsG P ops S i o v a :=
 h.imp (fun ⟨h1, h2⟩ => ⟨h1, fun L a b w c => h2 w ⟨L, a, b, c⟩⟩) id
theorem ready_unlisted {i : Nat} {L : Array Bool} (hi : i ∈ Region.ready .any ops L) : L.getD i false = false := by
 have h0 := (mem_ready.1 hi).1
 rcases Nat.lt_or_ge i L.size with h' | h'
 ·simp [h'] at h0 ⊢; exact h0
 ·simp [Array.getElem?_eq_none h'] at h0
theorem wpG_first {i : Nat} {oi : Oper} {v : Value} (hi : ops[i]? = some oi) (hsel : ∀ (j : Nat) (o : Oper) cs b, ops[j]? = some o → o.op ≠ .select cs b)
  (hQ : ∀ c a w, Q (.panic c) (a.put oi.dst v) w → Q (.panic c) a w) (hSi : ∀ L w, S L w → S (L.setIfInBounds i true) w) :
  ∀ (fuel : Nat) (L : Array Bool) (a : Act) (w : World), Closed ops L →
   (∀ j oj, ops[j]? = some oj → j ≠ i → L.getD j true = false → (∀ e ∈ oj.after, Region.binds .any e = true → e.on ≠ i) → oi.apart ops oj = true) →
   i ∈ Region.ready .any ops L → YieldsG P ops S i oi v a → S L w → (∀ (j : Nat) (L : Array Bool) (w : World), j ≠ i → S ((L.setIfInBounds i true).setIfInBounds j true) w → S (L.setIfInBounds j true) w) →
   wpG P ops Q S fuel (L.setIfInBounds i true) (a.put oi.dst v) w → wpG P ops Q S (fuel + 1) L a w := by
 intro fuel
 induction fuel with
 | zero =>
  intro L a w hc _ hr hy hS _ H
  refine ⟨fun h => (by rw [h] at hr; cases hr), fun j hj => ?_⟩
  by_cases hji : j = i
  ·subst hji; exact hy.to_if.wpOp hi ⟨L, hc, ready_unlisted hr, hS⟩ ⟨hSi L w hS, H⟩
  ·have := ready_mono hj hji
   rw [H.1] at this
   cases this
 | succ fuel ih =>
  intro L a w hc hfree hr hy hS hSj H
  refine ⟨fun h => (by rw [h] at hr; cases hr), fun j hj => ?_⟩
  by_cases hji : j = i
  ·subst hji; exact hy.to_if.wpOp hi ⟨L, hc, ready_unlisted hr, hS⟩ ⟨hSi L w hS, H⟩
  ·have h1 := H.2 j (ready_mono hj hji)
   obtain ⟨hjun, oj, hoj, hall⟩ := mem_ready.1 hj
   have hnot : ∀ e ∈ oj.after, Region.binds .any e = true → e.on ≠ i := fun e he hb heq => by
    have h1 := hall e he hb
    have h0 := (mem_ready.1 hr).1
    rw [heq] at h1
    rcases Nat.lt_or_ge i L.size with h' | h'
    ·simp [h'] at h0 h1; rw [h0] at h1; cases h1
    ·simp [Array.getElem?_eq_none h'] at h1
   have h2 := wpOp_putIf hoj (hfree j oj hoj hji hjun hnot) (fun cs b => hsel i oi cs b hi) (fun cs b => hsel j oj cs b hoj) hQ hy.to_if h1
   have hfree' : ∀ k ok, ops[k]? = some ok → k ≠ i → (L.setIfInBounds j true).getD k true = false →
     (∀ e ∈ ok.after, Region.binds .any e = true → e.on ≠ i) → oi.apart ops ok = true := fun k ok hk hki hun hno => by
    refine hfree k ok hk hki ?_ hno
    by_cases hjk : j = k
    ·subst hjk; exact hjun
    ·rw [getD_set_ne true hjk] at hun; exact hun
   refine wpOp_mono (fun a' w' h3 => ?_) h2
   have hS' := hSj j L w' hji h3.2.1
   refine ⟨hS', ih (L.setIfInBounds j true) a' w' (hc.set hj) hfree' (ready_mono hr (Ne.symm hji)) (YieldsG.of_if h3.1) hS' hSj ?_⟩
   rw [Array.setIfInBounds_comm _ _ hji]
   exact h3.2.2
end
def Stay (ι : Io) (lS : List HP) (st : Option Nat) (L : Array Bool) (w : World) : Prop := Holds ι w (sep (seps []) emp) ∧ ((∃ s, st = some s ∧ L.getD s false = true) ∨ Holds ι w (sep (seps lS) emp))
theorem base {A B : HP} : Ent (sep A B) (sep (seps []) emp) := fun r x _ => ⟨fun _ => none, x, fun _ => .inr ⟨rfl, rfl⟩, trivial, trivial⟩
def VA (P : Program) (ops : Array Oper) (Q : Exit → Act → World → Prop) (ι : Io) (F : HP) (n : Nat) (lS : List HP) (st : Option Nat) (fuel : Nat) (L : Array Bool) (ρ : List (Nat × Value)) (l : List HP) : Prop :=
 Closed ops L → VC ι F n (fun a w => Stay ι lS st L w → wpG P ops Q (Stay ι lS st) fuel L a w) ρ l
def reach (ops : Array Oper) : Nat → Nat → Nat → Bool
 | 0, _, _ => false
 | f + 1, s, i => match ops[s]? with
  | some o => o.after.any fun e => Region.binds .any e && (Nat.beq e.on i || reach ops f e.on i)
  | none => false
def ahead (ops : Array Oper) (st : Option Nat) (i : Nat) : Bool := match st with
 | none => true
 | some s => !Nat.beq i s && reach ops 3 s i
theorem reach_closed {ops : Array Oper} {L : Array Bool} (hc : Closed ops L) : ∀ (f s i : Nat), reach ops f s i = true → L.getD s false = true → L.getD i false = true
 | 0, _, _, h, _ => by simp [reach] at h
 | f + 1, s, i, h, hs => by
  simp only [reach] at h
  cases ho : ops[s]? with
  | none => simp [ho] at h
  | some o =>
   simp only [ho] at h
   obtain ⟨e, he1, he2⟩ := Array.any_eq_true'.1 h
   simp only [Bool.and_eq_true, Bool.or_eq_true] at he2
   have h1 := hc s o ho hs e he1 he2.1
   rcases he2.2 with h2 | h2
   ·rw [Nat.eq_of_beq_eq_true h2] at h1; exact h1
   ·exact reach_closed hc f e.on i h2 h1
section
variable {P : Program} {ι : Io} {F : HP} {n : Nat} {ρ : List (Nat × Value)} {l lS : List HP} {K : Act → World → Prop} {Q : Exit → Act → World → Prop} {ops : Array Oper} {st : Option Nat} {fuel : Nat} {L : Array Bool}
theorem vc_draw {id : Nat} {os : List Oper} (hm : P.follows .mixedOrders = true) (lS : List HP) (st : Option Nat) (is : List Nat) {r : List HP} (hp : pick is l = some (lS, r))
  (h : VA P os.toArray Q ι F n lS st os.length (Array.replicate os.length false) ρ l) : VC ι F n ((Code.region id os.toArray true).wp P Q) ρ l := fun a w he hw => by
 refine wp_region_any hm (wpAny_of_G (S := Stay ι lS st) _ _ _ _ ?_)
 have hc : Closed os.toArray (Array.replicate os.length false) := by
  intro j oj hj hl
  simp only [Array.getD_eq_getD_getElem?, Array.getElem?_replicate] at hl
  split at hl <;> simp at hl
 have := h hc a { w with drawn := w.drawn + 1 } he (hw.drew _) ⟨(hw.drew (w.drawn + 1)).ent base, .inr ((((hw.drew (w.drawn + 1)).ent Ent.left).ent (Ent.pick hp)).ent (Ent.left.trans (Ent.empL.trans Ent.comm)))⟩
 simpa using this
theorem ne_of_beq {i s : Nat} (h : Nat.beq i s = false) : i ≠ s := fun e => by subst e; simp at h
theorem setget {L : Array Bool} {i s : Nat} (hne : i ≠ s) : (L.setIfInBounds i true).getD s false = L.getD s false := by
 simp only [Array.getD_eq_getD_getElem?]
 rw [Array.getElem?_setIfInBounds_ne hne]
theorem Stay.set {L : Array Bool} {w : World} (h : Stay ι lS st L w) (i : Nat) : Stay ι lS st (L.setIfInBounds i true) w :=
 ⟨h.1, h.2.imp (fun ⟨s, e, h⟩ => ⟨s, e, getD_set' _ _ _ h⟩) id⟩
theorem Stay.back {i j : Nat} {L : Array Bool} {w : World} (hj : j ≠ i) (hne : ∀ s, st = some s → i ≠ s) (h : Stay ι lS st ((L.setIfInBounds i true).setIfInBounds j true) w) : Stay ι lS st (L.setIfInBounds j true) w := by
 refine ⟨h.1, h.2.imp ?_ id⟩
 rintro ⟨s, hs, h⟩
 refine ⟨s, hs, ?_⟩
 rw [Array.setIfInBounds_comm _ _ (Ne.symm hj), setget (hne s hs)] at h
 exact h
theorem ahead_ne {i : Nat} (hst : ahead ops st i = true) (s : Nat) (hs : st = some s) : i ≠ s := by
 subst hs
 simp only [ahead, Bool.and_eq_true] at hst
 exact ne_of_beq (by simpa using hst.1)
def notKill (st : Option Nat) (i : Nat) : Bool := match st with
 | none => true
 | some s => !Nat.beq i s
theorem notKill_ne {i : Nat} (hst : notKill st i = true) (s : Nat) (hs : st = some s) : i ≠ s := by
 subst hs
 exact ne_of_beq (by simpa [notKill] using hst)
theorem va_take (i : Nat) {d : Nat} {op : Op} {ty : TypeId} {pos : String} {aft : Array Edge} {g : Option (Nat × Bool)} {v : Value} (hi : ops[i]? = some ⟨some d, op, ty, pos, aft, g⟩) (hs : Region.noSelect ops = true) (hf : Region.free .any ops L i = true) (hr : (Region.ready .any ops L).contains i = true)
  (hst : ahead ops st i = true) (hQ : ∀ c a w, Q (.panic c) (a.put (some d) v) w → Q (.panic c) a w)
  (hg : ∀ a, Env n ρ a → Region.wanted ⟨some d, op, ty, pos, aft, g⟩ (yielded ops a.tmps) = true) (hy : Yld P ι emp n ρ lS ⟨some d, op, ty, pos, aft, g⟩ v) (hd : Nat.blt d n = true)
  (h : VA P ops Q ι F n lS st fuel (L.setIfInBounds i true) ((d, v) :: ρ) l) : VA P ops Q ι F n lS st (fuel + 1) L ρ l := fun hc a w he hw hS => by
 have hr' : i ∈ Region.ready .any ops L := by simpa using hr
 refine wpG_first (v := v) hi (Region.noSelect_spec hs) hQ (fun L w hS => hS.set i) fuel L a w hc (Region.free_spec hi hf) hr' (.inl ⟨hg a he, fun L' hc' hu w' hS' => ?_⟩) hS (fun j L' w' hj hS' => hS'.back hj (ahead_ne hst)) (h (hc.set hr') _ _ (he.put d hd v) hw (hS.set i))
 rcases hS'.2 with ⟨s, hs, hS2⟩ | hS2
 ·exfalso
  subst hs
  simp only [ahead, Bool.and_eq_true] at hst
  have := reach_closed hc' 3 s i hst.2 hS2
  rw [hu] at this
  cases this
 ·exact hy a w' he hS2
theorem va_takeP (i : Nat) {d : Nat} {op : Op} {ty : TypeId} {pos : String} {aft : Array Edge} {g : Option (Nat × Bool)} {v : Value} (hi : ops[i]? = some ⟨some d, op, ty, pos, aft, g⟩) (hs : Region.noSelect ops = true) (hf : Region.free .any ops L i = true) (hr : (Region.ready .any ops L).contains i = true)
  (hst : notKill st i = true) (hQ : ∀ c a w, Q (.panic c) (a.put (some d) v) w → Q (.panic c) a w)
  (hg : ∀ a, Env n ρ a → Region.wanted ⟨some d, op, ty, pos, aft, g⟩ (yielded ops a.tmps) = true) (hy : Yld P ι emp n ρ [] ⟨some d, op, ty, pos, aft, g⟩ v) (hd : Nat.blt d n = true)
  (h : VA P ops Q ι F n lS st fuel (L.setIfInBounds i true) ((d, v) :: ρ) l) : VA P ops Q ι F n lS st (fuel + 1) L ρ l := fun hc a w he hw hS => by
 have hr' : i ∈ Region.ready .any ops L := by simpa using hr
 exact wpG_first (v := v) hi (Region.noSelect_spec hs) hQ (fun L w hS => hS.set i) fuel L a w hc (Region.free_spec hi hf) hr' (.inl ⟨hg a he, fun L' hc' hu w' hS' => hy a w' he hS'.1⟩) hS (fun j L' w' hj hS' => hS'.back hj (notKill_ne hst)) (h (hc.set hr') _ _ (he.put d hd v) hw (hS.set i))
theorem va_skip (i : Nat) {d : Nat} {op : Op} {ty : TypeId} {pos : String} {aft : Array Edge} {g : Option (Nat × Bool)} (hi : ops[i]? = some ⟨some d, op, ty, pos, aft, g⟩) (hs : Region.noSelect ops = true) (hf : Region.free .any ops L i = true) (hr : (Region.ready .any ops L).contains i = true)
  (hst : notKill st i = true) (hQ : ∀ c a w, Q (.panic c) (a.put (some d) undef) w → Q (.panic c) a w)
  (hg : ∀ a, Env n ρ a → Region.wanted ⟨some d, op, ty, pos, aft, g⟩ (yielded ops a.tmps) = false) (hd : Nat.blt d n = true)
  (h : VA P ops Q ι F n lS st fuel (L.setIfInBounds i true) ((d, undef) :: ρ) l) : VA P ops Q ι F n lS st (fuel + 1) L ρ l := fun hc a w he hw hS => by
 have hr' : i ∈ Region.ready .any ops L := by simpa using hr
 exact wpG_first (v := undef) hi (Region.noSelect_spec hs) hQ (fun L w hS => hS.set i) fuel L a w hc (Region.free_spec hi hf) hr' (.inr ⟨hg a he, rfl⟩) hS (fun j L' w' hj hS' => hS'.back hj (notKill_ne hst)) (h (hc.set hr') _ _ (he.put d hd undef) hw (hS.set i))
theorem va_split (t : Nat) {b : Bool} (hb : lk ρ t = some (.bool b)) (ht : b = true → VA P ops Q ι F n lS st fuel L ((t, .bool true) :: ρ) l) (hf : b = false → VA P ops Q ι F n lS st fuel L ((t, .bool false) :: ρ) l) : VA P ops Q ι F n lS st fuel L ρ l :=
 fun hc => vc_split t hb (fun e => ht e hc) (fun e => hf e hc)
theorem va_splitP (t : Nat) {p : Prop} [Decidable p] (hb : lk ρ t = some (.bool (decide p))) (ht : p → VA P ops Q ι F n lS st fuel L ((t, .bool true) :: ρ) l) (hf : ¬ p → VA P ops Q ι F n lS st fuel L ((t, .bool false) :: ρ) l) : VA P ops Q ι F n lS st fuel L ρ l :=
 fun hc => vc_splitP t hb (fun e => ht e hc) (fun e => hf e hc)
theorem va_splitN (t : Nat) {p : Prop} [Decidable p] (hb : lk ρ t = some (.bool (!decide p))) (ht : ¬ p → VA P ops Q ι F n lS st fuel L ((t, .bool true) :: ρ) l) (hf : p → VA P ops Q ι F n lS st fuel L ((t, .bool false) :: ρ) l) : VA P ops Q ι F n lS st fuel L ρ l :=
 fun hc => vc_splitN t hb (fun e => ht e hc) (fun e => hf e hc)
theorem guarded {a : Act} (he : Env n ρ a) {o : Oper} {j t : Nat} {want b : Bool} (hg : o.guard = some (j, want)) (hj : (ops[j]?).bind (·.dst) = some t) (hb : lk ρ t = some (.bool b)) : Region.wanted o (yielded ops a.tmps) = (b == want) := by
 have hy : yielded ops a.tmps j = some b := by
  unfold yielded
  rw [hj]
  simp [he.val t _ hb]
 simp [Region.wanted, hg, hy]
theorem guardedU {a : Act} (he : Env n ρ a) {o : Oper} {j t : Nat} {want : Bool} (hg : o.guard = some (j, want)) (hj : (ops[j]?).bind (·.dst) = some t) (hb : lk ρ t = some undef) : Region.wanted o (yielded ops a.tmps) = false := by
 have hy : yielded ops a.tmps j = none := by
  unfold yielded
  rw [hj]
  simp [he.val t _ hb, undef]
 simp [Region.wanted, hg, hy]
theorem tpp (i : Nat) {d : Nat} {op : Op} {ty : TypeId} {pos : String} {aft : Array Edge} {v : Value} (h : VA P ops Q ι F n lS st fuel (L.setIfInBounds i true) ((d, v) :: ρ) l) (hi : ops[i]? = some ⟨some d, op, ty, pos, aft, none⟩ := by exact rfl) (hs : Region.noSelect ops = true := by kernel_rfl) (hf : Region.free .any ops L i = true := by kernel_rfl) (hr : (Region.ready .any ops L).contains i = true := by kernel_rfl) (hst : notKill st i = true := by kernel_rfl) (hQ : ∀ c a w, Q (.panic c) (a.put (some d) v) w → Q (.panic c) a w := by exact fun _ _ _ h => h) (hp : pureOp ρ op = some v := by exact rfl) (hd : Nat.blt d n = true := by exact rfl) : VA P ops Q ι F n lS st (fuel + 1) L ρ l :=
 va_takeP i hi hs hf hr hst hQ (fun _ _ => rfl) (y_p _ hp) hd h
theorem tgp (i : Nat) (t : Nat) {d : Nat} {op : Op} {ty : TypeId} {pos : String} {aft : Array Edge} {j : Nat} {want b : Bool} {v : Value} (h : VA P ops Q ι F n lS st fuel (L.setIfInBounds i true) ((d, v) :: ρ) l) (hi : ops[i]? = some ⟨some d, op, ty, pos, aft, (some (j, want))⟩ := by exact rfl) (hs : Region.noSelect ops = true := by kernel_rfl) (hf : Region.free .any ops L i = true := by kernel_rfl) (hr : (Region.ready .any ops L).contains i = true := by kernel_rfl) (hst : notKill st i = true := by kernel_rfl) (hQ : ∀ c a w, Q (.panic c) (a.put (some d) v) w → Q (.panic c) a w := by exact fun _ _ _ h => h) (hj : (ops[j]?).bind (·.dst) = some t := by exact rfl) (hb : lk ρ t = some (.bool b) := by exact rfl) (hw : (b == want) = true := by exact rfl) (hp : pureOp ρ op = some v := by exact rfl) (hd : Nat.blt d n = true := by exact rfl) : VA P ops Q ι F n lS st (fuel + 1) L ρ l :=
 va_takeP i hi hs hf hr hst hQ (fun _ he => (guarded he rfl hj hb).trans hw) (y_p _ hp) hd h
theorem tp (i : Nat) {d : Nat} {op : Op} {ty : TypeId} {pos : String} {aft : Array Edge} {v : Value} (hi : ops[i]? = some ⟨some d, op, ty, pos, aft, none⟩) (hy : Yld P ι emp n ρ [] ⟨some d, op, ty, pos, aft, none⟩ v) (h : VA P ops Q ι F n lS st fuel (L.setIfInBounds i true) ((d, v) :: ρ) l) (hs : Region.noSelect ops = true := by kernel_rfl) (hf : Region.free .any ops L i = true := by kernel_rfl) (hr : (Region.ready .any ops L).contains i = true := by kernel_rfl) (hst : notKill st i = true := by kernel_rfl) (hQ : ∀ c a w, Q (.panic c) (a.put (some d) v) w → Q (.panic c) a w := by exact fun _ _ _ h => h) (hd : Nat.blt d n = true := by exact rfl) : VA P ops Q ι F n lS st (fuel + 1) L ρ l :=
 va_takeP i hi hs hf hr hst hQ (fun _ _ => rfl) hy hd h
theorem tg (i : Nat) (t : Nat) {d : Nat} {op : Op} {ty : TypeId} {pos : String} {aft : Array Edge} {j : Nat} {want b : Bool} {v : Value} (hi : ops[i]? = some ⟨some d, op, ty, pos, aft, (some (j, want))⟩) (hy : Yld P ι emp n ρ [] ⟨some d, op, ty, pos, aft, (some (j, want))⟩ v) (h : VA P ops Q ι F n lS st fuel (L.setIfInBounds i true) ((d, v) :: ρ) l) (hs : Region.noSelect ops = true := by kernel_rfl) (hf : Region.free .any ops L i = true := by kernel_rfl) (hr : (Region.ready .any ops L).contains i = true := by kernel_rfl) (hst : notKill st i = true := by kernel_rfl) (hQ : ∀ c a w, Q (.panic c) (a.put (some d) v) w → Q (.panic c) a w := by exact fun _ _ _ h => h) (hj : (ops[j]?).bind (·.dst) = some t := by exact rfl) (hb : lk ρ t = some (.bool b) := by exact rfl) (hw : (b == want) = true := by exact rfl) (hd : Nat.blt d n = true := by exact rfl) : VA P ops Q ι F n lS st (fuel + 1) L ρ l :=
 va_takeP i hi hs hf hr hst hQ (fun _ he => (guarded he rfl hj hb).trans hw) hy hd h
theorem tk (i : Nat) {d : Nat} {op : Op} {ty : TypeId} {pos : String} {aft : Array Edge} {v : Value} (hi : ops[i]? = some ⟨some d, op, ty, pos, aft, none⟩) (hy : Yld P ι emp n ρ lS ⟨some d, op, ty, pos, aft, none⟩ v) (h : VA P ops Q ι F n lS st fuel (L.setIfInBounds i true) ((d, v) :: ρ) l) (hs : Region.noSelect ops = true := by kernel_rfl) (hf : Region.free .any ops L i = true := by kernel_rfl) (hr : (Region.ready .any ops L).contains i = true := by kernel_rfl) (hst : ahead ops st i = true := by kernel_rfl) (hQ : ∀ c a w, Q (.panic c) (a.put (some d) v) w → Q (.panic c) a w := by exact fun _ _ _ h => h) (hd : Nat.blt d n = true := by exact rfl) : VA P ops Q ι F n lS st (fuel + 1) L ρ l :=
 va_take i hi hs hf hr hst hQ (fun _ _ => rfl) hy hd h
theorem tkg (i : Nat) (t : Nat) {d : Nat} {op : Op} {ty : TypeId} {pos : String} {aft : Array Edge} {j : Nat} {want b : Bool} {v : Value} (hi : ops[i]? = some ⟨some d, op, ty, pos, aft, (some (j, want))⟩) (hy : Yld P ι emp n ρ lS ⟨some d, op, ty, pos, aft, (some (j, want))⟩ v) (h : VA P ops Q ι F n lS st fuel (L.setIfInBounds i true) ((d, v) :: ρ) l) (hs : Region.noSelect ops = true := by kernel_rfl) (hf : Region.free .any ops L i = true := by kernel_rfl) (hr : (Region.ready .any ops L).contains i = true := by kernel_rfl) (hst : ahead ops st i = true := by kernel_rfl) (hQ : ∀ c a w, Q (.panic c) (a.put (some d) v) w → Q (.panic c) a w := by exact fun _ _ _ h => h) (hj : (ops[j]?).bind (·.dst) = some t := by exact rfl) (hb : lk ρ t = some (.bool b) := by exact rfl) (hw : (b == want) = true := by exact rfl) (hd : Nat.blt d n = true := by exact rfl) : VA P ops Q ι F n lS st (fuel + 1) L ρ l :=
 va_take i hi hs hf hr hst hQ (fun _ he => (guarded he rfl hj hb).trans hw) hy hd h
theorem sk (i : Nat) (t : Nat) {d : Nat} {op : Op} {ty : TypeId} {pos : String} {aft : Array Edge} {j : Nat} {want b : Bool} (h : VA P ops Q ι F n lS st fuel (L.setIfInBounds i true) ((d, undef) :: ρ) l) (hi : ops[i]? = some ⟨some d, op, ty, pos, aft, (some (j, want))⟩ := by exact rfl) (hs : Region.noSelect ops = true := by kernel_rfl) (hf : Region.free .any ops L i = true := by kernel_rfl) (hr : (Region.ready .any ops L).contains i = true := by kernel_rfl) (hst : notKill st i = true := by kernel_rfl) (hQ : ∀ c a w, Q (.panic c) (a.put (some d) undef) w → Q (.panic c) a w := by exact fun _ _ _ h => h) (hj : (ops[j]?).bind (·.dst) = some t := by exact rfl) (hb : lk ρ t = some (.bool b) := by exact rfl) (hw : (b == want) = false := by exact rfl) (hd : Nat.blt d n = true := by exact rfl) : VA P ops Q ι F n lS st (fuel + 1) L ρ l :=
 va_skip i hi hs hf hr hst hQ (fun _ he => (guarded he rfl hj hb).trans hw) hd h
theorem sku (i : Nat) (t : Nat) {d : Nat} {op : Op} {ty : TypeId} {pos : String} {aft : Array Edge} {j : Nat} {want : Bool} (h : VA P ops Q ι F n lS st fuel (L.setIfInBounds i true) ((d, undef) :: ρ) l) (hi : ops[i]? = some ⟨some d, op, ty, pos, aft, (some (j, want))⟩ := by exact rfl) (hs : Region.noSelect ops = true := by kernel_rfl) (hf : Region.free .any ops L i = true := by kernel_rfl) (hr : (Region.ready .any ops L).contains i = true := by kernel_rfl) (hst : notKill st i = true := by kernel_rfl) (hQ : ∀ c a w, Q (.panic c) (a.put (some d) undef) w → Q (.panic c) a w := by exact fun _ _ _ h => h) (hj : (ops[j]?).bind (·.dst) = some t := by exact rfl) (hb : lk ρ t = some undef := by exact rfl) (hd : Nat.blt d n = true := by exact rfl) : VA P ops Q ι F n lS st (fuel + 1) L ρ l :=
 va_skip i hi hs hf hr hst hQ (fun _ he => guardedU he rfl hj hb) hd h
theorem wpOp_of_list {i : Nat} {o : Oper} {a : Act} {w : World} {K : Act → World → Prop} (hi : ops[i]? = some o) (h : wpList P ops (Exit.then K Q) [o] a w) : wpOp P ops Q i K a w := by
 unfold wpOp
 simp only [hi]
 unfold wpList at h
 have hnil : wpList P ops (Exit.then K Q) [] = K := by funext a w; simp [wpList, Exit.then]
 rw [hnil] at h
 split at h
 ·rename_i hw
  rw [if_pos hw]
  rcases h with h | ⟨h1, h2⟩
  ·left
   unfold Oper.wp at *
   generalize (execOp a.eval o).run P w = r at *
   cases r with
   | ok m w' => cases m <;> first | exact h | exact Calls.mono h (fun e w'' he => by cases e <;> exact he)
   | halt x w' => cases x <;> exact h
  ·exact .inr ⟨h1, h2⟩
 ·rename_i hw
  rw [if_neg hw]; exact h
def VO (P : Program) (ops : Array Oper) (Q : Exit → Act → World → Prop) (ι : Io) (F : HP) (n : Nat) (lS : List HP) (st : Option Nat) (fuel : Nat) (L : Array Bool) (ρ : List (Nat × Value)) (l : List HP) (rs : List Nat) : Prop :=
 ∀ i ∈ rs, Closed ops (L.setIfInBounds i true) → VC ι F n (fun a w => Stay ι lS st L w → wpOp P ops Q i (fun a' w' => Stay ι lS st (L.setIfInBounds i true) w' ∧ wpG P ops Q (Stay ι lS st) fuel (L.setIfInBounds i true) a' w') a w) ρ l
theorem va_ready (rs : List Nat) (hr : Region.ready .any ops L = rs) (hne : rs.isEmpty = false) (h : VO P ops Q ι F n lS st fuel L ρ l rs) : VA P ops Q ι F n lS st (fuel + 1) L ρ l := fun hc a w he hw hS =>
 ⟨fun h0 => by rw [hr] at h0; subst h0; simp at hne, fun i hi => h i (by rw [← hr]; exact hi) (hc.set hi) a w he hw hS⟩
theorem vo_nil : VO P ops Q ι F n lS st fuel L ρ l [] := fun i hi => by cases hi
def Next (P : Program) (ops : Array Oper) (Q : Exit → Act → World → Prop) (ι : Io) (lS : List HP) (st : Option Nat) (fuel : Nat) (L : Array Bool) : Act → World → Prop :=
 fun a' w' => Stay ι lS st L w' ∧ wpG P ops Q (Stay ι lS st) fuel L a' w'
theorem vo_cons {i : Nat} {rs : List Nat} {o : Oper} (hi : ops[i]? = some o) (h : Closed ops (L.setIfInBounds i true) → VC ι F n (wpList P ops (Exit.then (Next P ops Q ι lS st fuel (L.setIfInBounds i true)) Q) [o]) ρ l) (hs : VO P ops Q ι F n lS st fuel L ρ l rs) : VO P ops Q ι F n lS st fuel L ρ l (i :: rs) := fun j hj hc => by
 rcases List.mem_cons.1 hj with rfl | hj
 ·exact fun a w he hw _ => wpOp_of_list hi (h hc a w he hw)
 ·exact hs j hj hc
theorem va_kept (hc : Closed ops L) (is : List Nat) {r : List HP} (hp : pick is l = some (lS, r)) (h : VA P ops Q ι F n lS st fuel L ρ l) : VC ι F n (Next P ops Q ι lS st fuel L) ρ l := fun a w he hw => by
 have hS : Stay ι lS st L w := ⟨hw.ent base, .inr (((hw.ent Ent.left).ent (Ent.pick hp)).ent (Ent.left.trans (Ent.empL.trans Ent.comm)))⟩
 exact ⟨hS, h hc a w he hw hS⟩
theorem va_gone (hc : Closed ops L) (hs : (match st with | some s => L.getD s false | none => false) = true) (h : VA P ops Q ι F n lS st fuel L ρ l) : VC ι F n (Next P ops Q ι lS st fuel L) ρ l := fun a w he hw => by
 have hS : Stay ι lS st L w := by
  refine ⟨hw.ent base, .inl ?_⟩
  cases st with
  | none => simp at hs
  | some s => exact ⟨s, rfl, hs⟩
 exact ⟨hS, h hc a w he hw hS⟩
theorem va_done (hr : (Region.ready .any ops L).isEmpty = true) (h : VC ι F n (Q .normal) ρ l) : VA P ops Q ι F n lS st fuel L ρ l := fun hc a w he hw hS => by
 have hr' : Region.ready .any ops L = [] := by simpa using hr
 cases fuel with
 | zero => exact ⟨hr', h a w he hw⟩
 | succ fuel => exact ⟨fun _ => h a w he hw, by rw [hr']; simp⟩
end
end Go.Eng
namespace Go.Eng
section
variable {P : Program} {ι : Io} {F : HP} {n : Nat} {ρ : List (Nat × Value)} {l : List HP} {K : Act → World → Prop} {Q : Exit → Act → World → Prop} {all : Array Oper} {rest : List Oper}
variable {d : Nat} {ty : TypeId} {pos : String} {aft : Array Edge} {dst : Option Nat} {gd : Option (Nat × Bool)}
theorem vc_open (i : Nat) {α : Type} {E : Enc α} {h : SH} {xs : List α} (hA : nth l i = some (Sl E h xs)) (hc : 0 < h.cap)
    (g : ∀ b pre post, h = ⟨some ⟨b, pre.length, none⟩, xs.length, h.cap⟩ → xs.length ≤ h.cap → (h.cap - xs.length) * E.sz ≤ post.length → VC ι F n K ρ (put l i (Pts b (pre ++ flat E xs ++ post) E.ty))) : VC ι F n K ρ l := fun a w he hw => by
  have h1 : Holds ι w (sep (Sl E h xs) (sep (seps (del l i)) F)) := (hw.ent (Ent.sep (Ent.out hA) Ent.rfl)).ent Ent.assoc
  obtain ⟨hl, hh⟩ := Sl.pts h1
  rcases hh with ⟨_, h0⟩ | ⟨b, pre, post, a1, a2, a3, hP⟩
  · omega
  · refine g b pre post ?_ a2 a3 a w he ((hP.ent Ent.assoc').ent (Ent.sep (Ent.back hA) Ent.rfl))
    cases h; simp at a1 hl; simp [a1, hl]
theorem sl_close {α : Type} {E : Enc α} {b : Nat} {cs pre post : List Value} {xs : List α} {cap : Nat} (hcs : cs = pre ++ flat E xs ++ post) (h1 : xs.length ≤ cap) (h2 : (cap - xs.length) * E.sz ≤ post.length) {m : Nat} (hm : m = xs.length) :
    Ent (Pts b cs E.ty) (Sl E ⟨some ⟨b, pre.length, none⟩, m, cap⟩ xs) := by
  subst hcs; subst hm
  exact fun r x h => ⟨rfl, .inr ⟨b, pre, post, rfl, h1, h2, h⟩⟩
theorem run_setcells {w : World} {b o : Nat} {cs vs : List Value} {e : TypeId} (hb : w.heap[b]? = some (.cells cs.toArray e (0, 0))) (h1 : ∀ c ∈ vs, c.oneCell' = true) (hfit : o + vs.length ≤ cs.length) :
    (storeCells ⟨b, o, none⟩ vs).run P w = .ok () (w.setRow b (splice cs o vs).toArray) := by
  have := run_storeCells_at P b o e vs 0 cs.toArray w hb (by simpa using hfit) h1
  simpa [splice] using this
theorem vc_copyRaw (i : Nat) {b : Nat} {cs : List Value} {e : TypeId} (hA : nth l i = some (Pts b cs e)) {α : Type} {E : Enc α} (ys : List α) (j : Nat) {B : HP} (hB : nth l j = some B) {a2 : Option Addr} {l2 c2 : Nat} (hv : Vis B (Rd E ⟨a2, ys.length, c2⟩ ys)) {t tx : TypeId} (ht : TySl P t E.ty E.sz)
    {x y : Operand} {o dl dc : Nat} (hx : ev ρ x = some (.slice (some ⟨b, o, none⟩) dl dc)) (hy : ev ρ y = some (.slice a2 l2 c2)) (m : Nat) (hm : m = Nat.min l2 dl) (hml : ys.length = m) (hfit : o + m * E.sz ≤ cs.length) (hd : okO n dst = true)
    (g : VC ι F n (wpList P all Q rest) (putO dst (.int .i64 (m : Int)) ρ) (put l i (Pts b (splice cs o (flat E ys)) e))) :
    VC ι F n (wpList P all Q (⟨dst, .call { callee := .builtin .copy, args := #[x, y], argTypes := #[t, tx] }, ty, pos, aft, none⟩ :: rest)) ρ l := fun a w he hw =>
  wpList_plain rfl fun K hK => by
    have h1 : Holds ι w (sep (Pts b cs e) (sep (seps (del l i)) F)) := (hw.ent (Ent.sep (Ent.out hA) Ent.rfl)).ent Ent.assoc
    have hr := hv ι w (VC.chunk hw hB)
    have hcl : (flat E ys).length = m * E.sz := by rw [flat_length, hml]
    have hcells : (Builtin.firstCells E.sz m (.slice a2 l2 c2)).run P w = .ok (flat E ys).toArray w := by
      rcases hr.adr with ha | ⟨h0, hc0⟩
      · simp only [] at ha
        rw [ha]
        refine run_firstCells_some w E.sz m _ _ _ _ hcl (fun k u hu => ?_)
        rw [add_lit]
        exact hr.cell k u hu
      · subst h0
        have hm0 : m = 0 := by rw [← hml]; rfl
        subst hm0
        cases a2 with
        | none => simp [Builtin.firstCells, flat]
        | some ad =>
          have := run_firstCells_some (P := P) w E.sz 0 ad l2 c2 [] (by simp) (fun k u hu => by simp at hu)
          simpa [flat] using this
    have hst := run_setcells (P := P) (h1.ent Ent.left).pts (flat_one E ys) (o := o) (by rw [hcl]; exact hfit)
    have hrun : (Builtin.copy_ #[t, tx] ty #[.slice (some ⟨b, o, none⟩) dl dc, .slice a2 l2 c2]).run P w = .ok (.int .i64 (m : Int)) (w.setRow b (splice cs o (flat E ys)).toArray) := by
      have hm' : Nat.min l2 dl = m := hm.symm
      simp [Builtin.copy_, run_underlying ht.und, Builtin.lenOf, run_sizeOf ht.size]
      rw [hm', hcells]
      simp only [Result.andThen_ok]
      rw [hst]
      rfl
    unfold Oper.wp execOp
    simp only [resolve, invoke, builtin, Sem.run_bind, Sem.run_pure, Result.andThen_ok, List.map_toArray, List.map_cons, List.map_nil, he.eval hx, he.eval hy, hrun]
    exact hK _ _ (g _ _ (he.putO dst hd _) (((h1.set _).ent Ent.assoc').ent (Ent.sep (Ent.back hA) Ent.rfl)))
theorem vc_clearRaw (i : Nat) {b : Nat} {cs : List Value} {e : TypeId} (hA : nth l i = some (Pts b cs e)) {t el : TypeId} {z : Value} (zs : List Value) (ht : P.underlying t = some (.slice el)) (hz : (P.info? el).map (·.zero) = some (some z)) (hzs : z.cells = zs.toArray) (hz1 : zs.all (fun c => c.oneCell') = true)
    {x : Operand} {o m c : Nat} (hx : ev ρ x = some (.slice (some ⟨b, o, none⟩) m c)) (hm : 0 < m) (hfit : o + m * zs.length ≤ cs.length) (hd : okO n dst = true)
    (g : VC ι F n (wpList P all Q rest) (putO dst (.tuple #[]) ρ) (put l i (Pts b (splice cs o (List.replicate m zs).flatten) e))) :
    VC ι F n (wpList P all Q (⟨dst, .call { callee := .builtin .clear, args := #[x], argTypes := #[t] }, ty, pos, aft, none⟩ :: rest)) ρ l := fun a w he hw =>
  wpList_plain rfl fun K hK => by
    have h1 : Holds ι w (sep (Pts b cs e) (sep (seps (del l i)) F)) := (hw.ent (Ent.sep (Ent.out hA) Ent.rfl)).ent Ent.assoc
    have hzv : (zeroValue el).run P w = .ok z w := by
      cases hq : P.info? el with
      | none => simp [hq] at hz
      | some i => simp [hq] at hz; simp [zeroValue, typeInfo, hq, hz]
    have hzc : ∀ m : Nat, (Builtin.zeroCells z.cells m).toList = (List.replicate m zs).flatten := by
      intro m
      rw [hzs]
      apply List.ext_getElem?
      intro k
      unfold Builtin.zeroCells
      by_cases hk : k < m * zs.length
      · have hpos : 0 < zs.length := by
          rcases Nat.eq_zero_or_pos zs.length with h0 | h0
          · rw [h0] at hk; simp at hk
          · exact h0
        have hmod : k % zs.length < zs.length := Nat.mod_lt _ hpos
        have hR : ∀ (m k : Nat), k < m * zs.length → (List.replicate m zs).flatten[k]? = zs[k % zs.length]? := by
          intro m
          induction m with
          | zero => intro k hk; simp at hk
          | succ m ih =>
            intro k hk
            rw [List.replicate_succ, List.flatten_cons]
            by_cases h : k < zs.length
            · rw [List.getElem?_append_left h, Nat.mod_eq_of_lt h]
            · rw [List.getElem?_append_right (by omega), ih (k - zs.length) (by rw [Nat.add_mul] at hk; omega)]
              congr 1
              rw [← Nat.mod_eq_sub_mod (by omega)]
        rw [hR m k hk]
        simp [hk, hmod]
      · have hL : (List.replicate m zs).flatten.length = m * zs.length := by simp
        rw [List.getElem?_eq_none (by simp; omega), List.getElem?_eq_none (by rw [hL]; omega)]
    have hone : ∀ u ∈ (List.replicate m zs).flatten, u.oneCell' = true := by
      intro u hu
      obtain ⟨y, hy, hu⟩ := List.mem_flatten.1 hu
      rw [(List.mem_replicate.1 hy).2] at hu
      exact all_one hz1 u hu
    have hst := run_setcells (P := P) (h1.ent Ent.left).pts hone (o := o) (by simpa using hfit)
    have hrun : (Builtin.clear_ #[t] ty #[.slice (some ⟨b, o, none⟩) m c]).run P w = .ok (.tuple #[]) (w.setRow b (splice cs o (List.replicate m zs).flatten).toArray) := by
      obtain ⟨m', rfl⟩ : ∃ m', m = m' + 1 := ⟨m - 1, by omega⟩
      simp only [Builtin.clear_, Sem.run_bind, run_underlying ht, Result.andThen_ok, hzv, hzc]
      simp [run_underlying ht, hzv, hzc, hst]
    unfold Oper.wp execOp
    simp only [resolve, invoke, builtin, Sem.run_bind, Sem.run_pure, Result.andThen_ok, List.map_toArray, List.map_cons, List.map_nil, he.eval hx, hrun]
    exact hK _ _ (g _ _ (he.putO dst hd _) (((h1.set _).ent Ent.assoc').ent (Ent.sep (Ent.back hA) Ent.rfl)))
theorem vc_appendRaw (i : Nat) {b : Nat} {cs : List Value} {e : TypeId} (hA : nth l i = some (Pts b cs e)) {α : Type} {E : Enc α} (ys : List α) (j : Nat) {B : HP} (hB : nth l j = some B) {h2 : SH} (hv : Vis B (Rd E h2 ys)) {t tx : TypeId} {by_ : Nat} (ht : TyEl P t E by_) {e' : TypeId} (htx : P.underlying tx = some (.slice e'))
    {x y : Operand} {o sl sc : Nat} (hx : ev ρ x = some (.slice (some ⟨b, o, none⟩) sl sc)) (hy : ev ρ y = some h2.v) (hroom : sl + ys.length ≤ sc) (hfit : o + sl * E.sz + ys.length * E.sz ≤ cs.length) (hd : Nat.blt d n = true)
    (g : VC ι F n (wpList P all Q rest) ((d, .slice (some ⟨b, o, none⟩) (sl + ys.length) sc) :: ρ) (put l i (Pts b (splice cs (o + sl * E.sz) (flat E ys)) e))) :
    VC ι F n (wpList P all Q (⟨some d, .call { callee := .builtin .append, args := #[x, y], argTypes := #[t, tx] }, ty, pos, aft, none⟩ :: rest)) ρ l := fun a w he hw =>
  wpList_plain rfl fun K hK => by
    have h1 : Holds ι w (sep (Pts b cs e) (sep (seps (del l i)) F)) := (hw.ent (Ent.sep (Ent.out hA) Ent.rfl)).ent Ent.assoc
    have hr := hv ι w (VC.chunk hw hB)
    obtain ⟨z, hinfo, hz⟩ := ht.info
    obtain ⟨ti, hi, hz0, hsz, hbs⟩ := info_get hinfo
    have hsrc := hr.src (P := P) htx
    have hst := run_setcells (P := P) (h1.ent Ent.left).pts (flat_one E ys) (o := o + sl * E.sz) (by rw [flat_length]; exact hfit)
    have hrun : (Builtin.append_ #[t, tx] ty #[.slice (some ⟨b, o, none⟩) sl sc, h2.v]).run P w = .ok (.slice (some ⟨b, o, none⟩) (sl + ys.length) sc) (w.setRow b (splice cs (o + sl * E.sz) (flat E ys)).toArray) := by
      have hcells := hsrc.cells
      have hlen := hsrc.len w
      rcases hsrc.kind with ⟨e'', hk⟩ | hk <;>
        (simp [Builtin.append_, run_underlying ht.und, run_underlying hk, sizeOf, typeInfo, hi, hlen, hroom, hsz, add_lit]
         rw [hcells]
         simp only [Result.andThen_ok]
         rw [hst]
         rfl)
    unfold Oper.wp execOp
    simp only [resolve, invoke, builtin, Sem.run_bind, Sem.run_pure, Result.andThen_ok, List.map_toArray, List.map_cons, List.map_nil, he.eval hx, he.eval hy, hrun]
    exact hK _ _ (g _ _ (he.put d hd _) (((h1.set _).ent Ent.assoc').ent (Ent.sep (Ent.back hA) Ent.rfl)))
theorem wrapm {m : Nat} (h : m ≤ 9223372036854775807) : IntKind.i64.wrap (m : Int) = m := wrap64 (by omega) (by omega)
theorem vc_appendZ (j : Nat) {B : HP} (hB : nth l j = some B) {α : Type} {E : Enc α} {h : SH} {xs : List α} (hv : Vis B (Rd E h xs)) (z : α) {t tn : TypeId} {by_ : Nat} {kn : IntKind} (ht : TyEl P t E by_) (htn : P.underlying tn = some (.int kn)) {zv : Value} (hz : (P.info? E.ty).map (·.zero) = some (some zv)) (hzc : zv.cells = (E.f z).toArray)
    {x y : Operand} (hx : ev ρ x = some h.v) {k : IntKind} (m : Nat) {mz : Int} (hy : ev ρ y = some (.int k mz)) (hmz : mz = (m : Int)) (hg : h.cap < xs.length + m) (h63 : xs.length + m ≤ 9223372036854775807) (hby : (xs.length + m) * by_ ≤ 140737488355328) (hd : Nat.blt d n = true)
    (g : ∀ h' : SH, xs.length + m ≤ h'.cap → VC ι F n (wpList P all Q rest) ((d, h'.v) :: ρ) (Sl E h' (xs ++ List.replicate m z) :: l)) :
    VC ι F n (wpList P all Q (⟨some d, .call { callee := .builtin .append, args := #[x, y], argTypes := #[t, tn] }, ty, pos, aft, none⟩ :: rest)) ρ l := fun a w he hw =>
  wpList_plain rfl fun K hK => by
    subst hmz
    have hr := hv ι w (VC.chunk hw hB)
    obtain ⟨z', hinfo, hzs⟩ := ht.info
    obtain ⟨ti, hi, hz0, hsz, hbs⟩ := info_get hinfo
    have hzz : z' = zv := by simp [hi, hz0] at hz; exact hz
    subst hzz
    have hzn : ∀ m : Nat, (Builtin.zeroCells z'.cells m).toList = flat E (List.replicate m z) := by
      intro m
      have hR : flat E (List.replicate m z) = (List.replicate m (E.f z)).flatten := by
        induction m with
        | zero => rfl
        | succ m ih => rw [List.replicate_succ, List.replicate_succ, flat_cons, List.flatten_cons, ih]
      rw [hR, hzc]
      have hpos := E.pos
      have hlen := E.len z
      have hR2 : ∀ (m k : Nat), k < m * (E.f z).length → (List.replicate m (E.f z)).flatten[k]? = (E.f z)[k % (E.f z).length]? := by
        intro m
        induction m with
        | zero => intro k hk; simp at hk
        | succ m ih =>
          intro k hk
          rw [List.replicate_succ, List.flatten_cons]
          by_cases h : k < (E.f z).length
          · rw [List.getElem?_append_left h, Nat.mod_eq_of_lt h]
          · rw [List.getElem?_append_right (by omega), ih (k - (E.f z).length) (by rw [Nat.add_mul] at hk; omega)]
            congr 1
            rw [← Nat.mod_eq_sub_mod (by omega)]
      apply List.ext_getElem?
      intro k
      unfold Builtin.zeroCells
      by_cases hk : k < m * (E.f z).length
      · have hmod : k % (E.f z).length < (E.f z).length := Nat.mod_lt _ (by omega)
        rw [hR2 m k hk]
        simp [hk, hmod]
      · have hL : (List.replicate m (E.f z)).flatten.length = m * (E.f z).length := by simp
        rw [List.getElem?_eq_none (by simp; omega), List.getElem?_eq_none (by rw [hL]; omega)]
    have hold : (Builtin.firstCells ti.size xs.length (.slice h.a h.len h.cap)).run P w.drew = .ok (flat E xs).toArray w.drew := by
      rw [hsz]
      rcases hr.adr with ha | ⟨h0, hc0⟩
      · rw [ha]
        exact run_firstCells_some w.drew E.sz xs.length _ _ _ _ (flat_length E xs) (fun q u hu => by rw [add_lit]; exact hr.cell q u hu)
      · subst h0
        cases h.a with
        | none => simp [Builtin.firstCells, flat]
        | some ad =>
          have := run_firstCells_some (P := P) w.drew E.sz 0 ad h.len h.cap [] (by simp) (fun q u hu => by simp at hu)
          simpa [flat] using this
    have hn : ¬ (xs.length + m ≤ h.cap) := by omega
    have h63' : ¬ (9223372036854775807 < ((xs.length : Int) + (m : Int))) := by omega
    have h48' : ¬ (281474976710656 < Builtin.nextslicecap (xs.length + m) h.cap * ti.bytes) := by
      have := nextslicecap_any hg (b := ti.bytes) (by rw [hbs]; exact hby)
      omega
    have hmb : (m : Int) * (ti.bytes : Int) ≤ 140737488355328 := by
      have h2 : m * ti.bytes ≤ (xs.length + m) * by_ := by rw [hbs]; exact Nat.mul_le_mul_right _ (by omega)
      have h4 : ((m * ti.bytes : Nat) : Int) ≤ ((140737488355328 : Nat) : Int) := Int.ofNat_le.2 (Nat.le_trans h2 hby)
      rw [Int.natCast_mul] at h4
      exact h4
    have h48i : ¬ (281474976710656 < (m : Int) * (ti.bytes : Int)) := by omega
    have hneg : ¬ ((m : Int) < 0) := by omega
    have hw64 : IntKind.i64.wrap (m : Int) = m := wrapm (by omega)
    have hlen : h.len = xs.length := hr.len
    have hrun : (Builtin.append_ #[t, tn] ty #[h.v, .int k (m : Int)]).run P w =
        .ok (.slice (some ⟨w.heap.size, 0, none⟩) (xs.length + m) (grownCap w (xs.length + m) h.cap E.ty))
          (w.drew.alloc (.cells ((flat E xs).toArray ++ Builtin.zeroCells z'.cells m ++ Builtin.zeroCells z'.cells (grownCap w (xs.length + m) h.cap E.ty - (xs.length + m))) E.ty)) := by
      have h0 : 0 < m := by have := hr.cap; omega
      have hms : ¬ (m * ti.size = 0) := by
        rw [hsz]; have := E.pos; exact Nat.ne_of_gt (Nat.mul_pos h0 this)
      have hms' : ¬ (m = 0 ∨ ti.size = 0) := by rw [← Nat.mul_eq_zero]; exact hms
      obtain ⟨ha, hl, hcp⟩ := h
      simp only [] at hlen
      subst hlen
      simp only [] at hold hn h48'
      simp [SH.v, Builtin.append_, run_underlying ht.und, run_underlying htn, sizeOf, typeInfo, zeroValue, hi, hz0, asInt, asIntOf, hw64, hn, h63', h48', h48i, hneg, hms, hms', Question.forced, newRow, grownCap, hold]
    unfold Oper.wp execOp
    simp only [resolve, invoke, builtin, Sem.run_bind, Sem.run_pure, Result.andThen_ok, List.map_toArray, List.map_cons, List.map_nil, he.eval hx, he.eval hy, hrun]
    have hge := grownCap_ge w (xs.length + m) h.cap E.ty
    have hG : Holds ι w.drew (sep (seps l) F) := hw.draw1
    have hnw := hG.new (flat E (xs ++ List.replicate m z) ++ (Builtin.zeroCells z'.cells (grownCap w (xs.length + m) h.cap E.ty - (xs.length + m))).toList) E.ty
    have hq : (Builtin.zeroCells z'.cells (grownCap w (xs.length + m) h.cap E.ty - (xs.length + m))).toList.length = (grownCap w (xs.length + m) h.cap E.ty - (xs.length + m)) * E.sz := by
      rw [Array.length_toList, size_zeroCells, hzs]
    have e : (flat E (xs ++ List.replicate m z) ++ (Builtin.zeroCells z'.cells (grownCap w (xs.length + m) h.cap E.ty - (xs.length + m))).toList).toArray = ((flat E xs).toArray ++ Builtin.zeroCells z'.cells m ++ Builtin.zeroCells z'.cells (grownCap w (xs.length + m) h.cap E.ty - (xs.length + m))) := by
      apply Array.ext'; simp [flat_append, ← hzn]
    rw [e] at hnw
    refine hK _ _ (g ⟨some ⟨w.heap.size, 0, none⟩, xs.length + m, grownCap w (xs.length + m) h.cap E.ty⟩ hge _ _ (he.put d hd _) ((hnw.ent Ent.assoc').ent (Ent.sep (Ent.sep ?_ Ent.rfl) Ent.rfl)))
    have := Sl.mk1 (E := E) w.drew.heap.size (xs ++ List.replicate m z) (grownCap w (xs.length + m) h.cap E.ty) (Builtin.zeroCells z'.cells (grownCap w (xs.length + m) h.cap E.ty - (xs.length + m))).toList (by simpa using hge) (by rw [hq]; simp)
    simpa using this
theorem y_overlaps {t0 tR : TypeId} {f : FuncId} {fn : Func} (hf : P.funcs[f]? = some fn) (hb : fn.body = none) (hnm : (fn.name == "runtime.NumGoroutine") = false) (hnx : Extern.findNext fn = none) (hx' : Extern.find fn = some (Extern.SlicesOverlaps.overlaps #[t0, t0] #[tR]))
    {el : TypeId} {sz : Nat} (ht : TySl P t0 el sz) (i j : Nat) {b1 b2 : Nat} {cs1 cs2 : List Value} {e1 e2 : TypeId} (hA : nth l i = some (Pts b1 cs1 e1)) (hB : nth l j = some (Pts b2 cs2 e2)) (hij : Nat.beq i j = false) (hne2 : cs2.isEmpty = false)
    {x y : Operand} {ats : Array TypeId} {c : Operand} (hc : ev ρ c = some (.func (.func f) #[] #[])) {o1 n1 c1 o2 n2 c2 : Nat} (hx : ev ρ x = some (.slice (some ⟨b1, o1, none⟩) n1 c1)) (hy : ev ρ y = some (.slice (some ⟨b2, o2, none⟩) n2 c2)) :
    Yld P ι F n ρ l ⟨dst, .call { callee := .value c, args := #[x, y], argTypes := ats }, ty, pos, aft, gd⟩ (.bool false) := fun a w he hw => by
  have hp1 := (VC.chunk hw hA).pts
  have hp2 := (VC.chunk hw hB).pts
  have hne : b1 ≠ b2 := by
    intro hbb
    subst hbb
    have hij' : i ≠ j := ne_of_beq hij
    obtain ⟨_, _, r, x0, s, hp⟩ := hw.ent Ent.left
    have key : ∀ (l : List HP) (i j : Nat) (x0 : Hh), i ≠ j → nth l i = some (Pts b1 cs1 e1) → nth l j = some (Pts b1 cs2 e2) → (seps l).P r x0 → False := by
      intro l
      induction l with
      | nil => intro i j x0 _ h; simp [nth] at h
      | cons A l ih =>
        intro i j x0 hne h1 h2 hp
        obtain ⟨y1, y2, hjn, ha, hl⟩ := hp
        have out : ∀ (l : List HP) (k : Nat) (cs : List Value) (e : TypeId) (x0 : Hh), nth l k = some (Pts b1 cs e) → (seps l).P r x0 → ∃ o, x0 b1 = some o := by
          intro l k cs e x0 h hp
          obtain ⟨z1, z2, hj2, hz, _⟩ := Ent.out h r x0 hp
          exact ⟨_, hj2.sub1 _ _ hz⟩
        cases i with
        | zero =>
          cases j with
          | zero => exact hne rfl
          | succ j =>
            simp [nth] at h1 h2
            subst h1
            obtain ⟨o, ho⟩ := out l j cs2 e2 y2 h2 hl
            have ha' : y1 b1 = some _ := ha
            rcases hjn b1 with ⟨_, q⟩ | ⟨_, q⟩
            · rw [q] at ho; cases ho
            · rw [q] at ha'; cases ha'
        | succ i =>
          cases j with
          | zero =>
            simp [nth] at h1 h2
            subst h2
            obtain ⟨o, ho⟩ := out l i cs1 e1 y2 h1 hl
            have ha' : y1 b1 = some _ := ha
            rcases hjn b1 with ⟨_, q⟩ | ⟨_, q⟩
            · rw [q] at ho; cases ho
            · rw [q] at ha'; cases ha'
          | succ j => exact ih i j y2 (by omega) h1 h2 hl
    exact key l i j x0 hij' hA hB hp
  have hnm' : ¬ (fn.name = "runtime.NumGoroutine") := by simpa using hnm
  have hf1 : ∀ o : Nat, w.frozen? ⟨b1, o, none⟩ = false := fun o => by simp [World.frozen?, hp1]
  have hf2 : ∀ o : Nat, w.frozen? ⟨b2, o, none⟩ = false := fun o => by simp [World.frozen?, hp2]
  have hs1 : w.shape? b1 = some (e1, cs1.length) := by simp [World.shape?, hp1]
  have hs2 : w.shape? b2 = some (e2, cs2.length) := by simp [World.shape?, hp2]
  have hov : (Extern.SlicesOverlaps.overlaps #[t0, t0] #[tR] #[.slice (some ⟨b1, o1, none⟩) n1 c1, .slice (some ⟨b2, o2, none⟩) n2 c2]).run P w = .ok (.bool false) w :=
    Lib.run_overlaps_apart w t0 tR el ht.und sz (run_sizeOf ht.size) ⟨b1, o1, none⟩ ⟨b2, o2, none⟩ n1 c1 n2 c2 hne e1 e2 cs1.length cs2.length hs1 hs2 (by cases cs2 <;> simp_all) (hf1 o1) (hf1 cs1.length)
  have hcall : (callFunc f #[.slice (some ⟨b1, o1, none⟩) n1 c1, .slice (some ⟨b2, o2, none⟩) n2 c2]).run P w = .ok (.value (.bool false)) w := by
    simp [callFunc, program, Sem.run, hf, hb, hnm', mark, hnx, hx', hov]
  simp only [execOp, resolve, he.eval hc, Deferred.ofValue, invoke, Sem.run_bind, Sem.run_pure, Result.andThen_ok, List.map_toArray, List.map_cons, List.map_nil, he.eval hx, he.eval hy]
  simpa using hcall
def over {α : Type} (xs : List α) (j : Nat) (ys : List α) : List α := xs.take j ++ ys ++ xs.drop (j + ys.length)
theorem splice_flat {α : Type} (E : Enc α) {xs ys : List α} {pre post : List Value} {j : Nat} (hj : j ≤ xs.length) :
    splice (pre ++ flat E xs ++ post) (pre.length + j * E.sz) (flat E ys) = pre ++ flat E (over xs j ys) ++ post.drop ((j + ys.length - xs.length) * E.sz) := by
  unfold splice over
  have e1 : (pre ++ flat E xs ++ post).take (pre.length + j * E.sz) = pre ++ flat E (xs.take j) := by
    rw [List.append_assoc, List.take_length_add_append, List.take_append_of_le_length (by rw [flat_length]; exact Nat.mul_le_mul_right _ hj), flat_take]
  have e2 : (pre ++ flat E xs ++ post).drop (pre.length + j * E.sz + (flat E ys).length) = flat E (xs.drop (j + ys.length)) ++ post.drop ((j + ys.length - xs.length) * E.sz) := by
    rw [List.append_assoc, Nat.add_assoc, List.drop_length_add_append, flat_length E ys, ← Nat.add_mul, flat_drop]
    rw [List.drop_append, flat_length, ← Nat.sub_mul]
  rw [e1, e2]
  simp [flat_append]
theorem cutR {b o m c sz lo hi mx : Nat} (h : Nat.beq mx lo = false) : SH.cut ⟨some ⟨b, o, none⟩, m, c⟩ sz lo hi mx = ⟨some ⟨b, o + lo * sz, none⟩, hi - lo, mx - lo⟩ := by
  have : mx ≠ lo := fun e => by subst e; simp at h
  simp [SH.cut, this, add_lit]
theorem y_sliceR {t e : TypeId} {sz : Nat} (ht : TySl P t e sz) {x : Operand} {b o m c : Nat} (hx : ev ρ x = some (.slice (some ⟨b, o, none⟩) m c)) {ol oh om : Option Operand} (lo hi mx o' m' c' : Nat) (b1 : bnd ρ ol 0 lo) (b2 : bnd ρ oh m hi) (b3 : bnd ρ om c mx) (hom : om.isSome = true → oh.isSome = true)
    (h1 : lo ≤ hi) (h2 : hi ≤ mx) (h3 : mx ≤ c) (h4 : lo ≠ mx) (ho : o' = o + lo * sz) (hm : m' = hi - lo) (hc : c' = mx - lo) : Yld P ι F n ρ l ⟨dst, .slice t x ol oh om, ty, pos, aft, gd⟩ (.slice (some ⟨b, o', none⟩) m' c') := by
  have := y_slice (P := P) (ι := ι) (F := F) (n := n) (l := l) (ty := ty) (pos := pos) (aft := aft) (dst := dst) (gd := gd) ht (x := x) (h := ⟨some ⟨b, o, none⟩, m, c⟩) hx lo hi mx b1 b2 b3 hom h1 h2 h3
  have hb : Nat.beq mx lo = false := by
    cases hq : Nat.beq mx lo with
    | false => rfl
    | true => exact absurd (Nat.eq_of_beq_eq_true hq).symm h4
  rw [cutR hb] at this
  subst ho; subst hm; subst hc
  exact this
theorem Pts.rd {α : Type} {E : Enc α} {b : Nat} {pre post : List Value} {xs : List α} {e : TypeId} {cap : Nat} (hc : xs.length ≤ cap) : Vis (Pts b (pre ++ flat E xs ++ post) e) (Rd E ⟨some ⟨b, pre.length, none⟩, xs.length, cap⟩ xs) := fun ι w hh =>
  ⟨rfl, hc, .inl rfl, fun m c h => cell_mid w b pre _ post e _ hh.pts m c h⟩
theorem Pts.rdR {α : Type} {E : Enc α} {b : Nat} {pre post : List Value} {xs : List α} {e : TypeId} (ys : List α) (j : Nat) (hy : (xs.drop j).take ys.length = ys) {o c m : Nat} (ho : o = pre.length + j * E.sz) (hm : m = ys.length) (hc : m ≤ c) : Vis (Pts b (pre ++ flat E xs ++ post) e) (Rd E ⟨some ⟨b, o, none⟩, m, c⟩ ys) := fun ι w hh => by
  subst hm
  refine ⟨rfl, hc, .inl rfl, fun m v h => ?_⟩
  have h1 : (flat E xs)[j * E.sz + m]? = some v := by
    rw [← hy, flat_take, flat_drop, List.getElem?_take] at h
    split at h
    · rwa [List.getElem?_drop] at h
    · cases h
  have := cell_mid w b pre _ post e _ hh.pts _ v h1
  simp only [SH.blk, SH.off]
  rw [ho, Nat.add_assoc]
  exact this
end
end Go.Eng
namespace Go.Eng
section
variable {P : Program} {ι : Io} {F : HP} {n : Nat} {ρ : List (Nat × Value)} {l : List HP} {K : Act → World → Prop} {Q : Exit → Act → World → Prop} {all : Array Oper} {rest : List Oper}
variable {d : Nat} {ty : TypeId} {pos : String} {aft : Array Edge} {dst : Option Nat} {gd : Option (Nat × Bool)}
theorem vc_re (i : Nat) {A A' : HP} (hA : nth l i = some A) (e : A = A') (h : VC ι F n K ρ (put l i A')) : VC ι F n K ρ l := by
 subst e
 have : put l i A = l := by
  clear h
  induction l generalizing i with
  | nil => simp [nth] at hA
  | cons B l ih => cases i with
   | zero => simp [nth] at hA; subst hA; rfl
   | succ i => simp [nth] at hA; simp only [put]; rw [ih i hA]
 rwa [this] at h
theorem vc_cells (i : Nat) {b : Nat} {cs : List Value} {e : TypeId} (cs' : List Value) (hA : nth l i = some (Pts b cs e)) (he : cs = cs') (h : VC ι F n K ρ (put l i (Pts b cs' e))) : VC ι F n K ρ l := vc_re i hA (by rw [he]) h
theorem flat_rep {α : Type} (E : Enc α) (z : α) (m : Nat) : (List.replicate m (E.f z)).flatten = flat E (List.replicate m z) := by
 induction m with
 | zero => rfl
 | succ m ih => rw [List.replicate_succ, List.replicate_succ, flat_cons, List.flatten_cons, ih]
theorem vc_clearE (i : Nat) {b : Nat} {cs : List Value} {e : TypeId} (hA : nth l i = some (Pts b cs e)) {α : Type} (E : Enc α) (z : α) {t : TypeId} {zv : Value} (ht : P.underlying t = some (.slice E.ty)) (hz : (P.info? E.ty).map (·.zero) = some (some zv)) (hzs : zv.cells = (E.f z).toArray)
  {x : Operand} {o m c : Nat} (hx : ev ρ x = some (.slice (some ⟨b, o, none⟩) m c)) (hm : 0 < m) (hfit : o + m * E.sz ≤ cs.length) (hd : okO n dst = true)
  (g : VC ι F n (wpList P all Q rest) (putO dst (.tuple #[]) ρ) (put l i (Pts b (splice cs o (flat E (List.replicate m z))) e))) :
  VC ι F n (wpList P all Q (⟨dst, .call { callee := .builtin .clear, args := #[x], argTypes := #[t] }, ty, pos, aft, none⟩ :: rest)) ρ l :=
 vc_clearRaw i hA (E.f z) ht hz hzs (by simpa using fun c hc => E.one z c hc) hx hm (by rw [E.len]; exact hfit) hd (by rw [flat_rep]; exact g)
end
section
variable {α : Type}
theorem over_len {xs ys : List α} {j : Nat} (hj : j ≤ xs.length) : (over xs j ys).length = max xs.length (j + ys.length) := by simp [over]; omega
theorem over_del {xs : List α} {i j m : Nat} (z : α) (hi : i ≤ j) (hj : j ≤ xs.length) (hm : m = i + (xs.length - j)) : over (over xs i (xs.drop j)) m (List.replicate (j - i) z) = (xs.take i ++ xs.drop j) ++ List.replicate (j - i) z := by
 subst hm
 unfold over
 have h1 : (xs.take i ++ xs.drop j).length = i + (xs.length - j) := by simp; omega
 rw [List.take_left' h1]
 have h2 : i + (xs.length - j) + (List.replicate (j - i) z).length = (xs.take i ++ xs.drop j ++ xs.drop (i + (xs.drop j).length)).length := by simp; omega
 rw [h2, List.drop_length, List.append_nil]
theorem over_ins {xs : List α} {i : Nat} (y : α) (hi : i < xs.length) : over (over xs (i + 1) (xs.drop i)) i [y] = xs.take i ++ y :: xs.drop i := by
 unfold over
 have h1 : (xs.take (i + 1) ++ xs.drop i ++ xs.drop (i + 1 + (xs.drop i).length)) = xs.take (i + 1) ++ xs.drop i := by
  have h0 : xs.drop (i + 1 + (xs.drop i).length) = [] := List.drop_eq_nil_of_le (by simp; omega)
  rw [h0, List.append_nil]
 rw [h1]
 have h2 : (xs.take (i + 1) ++ xs.drop i).take i = xs.take i := by
  rw [List.take_append_of_le_length (by simp; omega), List.take_take]; congr 1; omega
 have h3 : (xs.take (i + 1) ++ xs.drop i).drop (i + [y].length) = xs.drop i := by
  have : (xs.take (i + 1)).length = i + [y].length := by simp; omega
  rw [List.drop_left' this]
 rw [h2, h3]; simp
theorem over_new {xs : List α} {i : Nat} (y z : α) (hi : i < xs.length) : over (over (xs.take i ++ List.replicate (xs.length + 1 - i) z) i [y]) (i + 1) (xs.drop i) = xs.take i ++ y :: xs.drop i := by
 unfold over
 have h1 : (xs.take i).length = i := by simp; omega
 have h2 : (xs.take i ++ List.replicate (xs.length + 1 - i) z).take i = xs.take i := List.take_left' h1
 have h3 : (xs.take i ++ List.replicate (xs.length + 1 - i) z).drop (i + [y].length) = List.replicate (xs.length - i) z := by
  rw [show i + [y].length = (xs.take i).length + 1 by simp; omega, List.drop_length_add_append, List.drop_replicate]
  congr 1; omega
 rw [h2, h3]
 have h4 : (xs.take i ++ [y]).length = i + 1 := by simp; omega
 have h5 : (xs.take i ++ [y] ++ List.replicate (xs.length - i) z).drop (i + 1 + (xs.drop i).length) = [] := List.drop_eq_nil_of_le (by simp only [List.length_append, h1, List.length_replicate, List.length_drop, List.length_singleton]; omega)
 rw [List.take_left' h4, h5]
 simp
end
theorem Rd.re {α : Type} {E : Enc α} {h : SH} {xs : List α} {w : World} (r : Rd E h xs w) : Rd E ⟨h.a, xs.length, h.cap⟩ xs w := by
 have := r.len
 cases h; simp at this; subst this; exact r
theorem Rd.cutL {α : Type} {E : Enc α} {h : SH} {xs : List α} {w : World} (r : Rd E h xs w) {i : Nat} (hi : i ≤ xs.length) : Rd E (h.cut E.sz 0 i h.cap) (xs.take i) w := by
 have := r.cut (lo := 0) (hi := i) (mx := h.cap) (Nat.zero_le _) hi (by have := r.cap; omega) (Nat.le_refl _)
 rwa [List.drop_zero] at this
theorem Rd.cutT {α : Type} {E : Enc α} {h : SH} {xs : List α} {w : World} (r : Rd E h xs w) {i : Nat} (hi : i ≤ xs.length) : Rd E (h.cut E.sz i xs.length h.cap) (xs.drop i) w := by
 have := r.cut (lo := i) (hi := xs.length) (mx := h.cap) hi (Nat.le_refl _) r.cap (Nat.le_refl _)
 rwa [List.take_length] at this
theorem Rd.cutD {α : Type} {E : Enc α} {h : SH} {xs : List α} {w : World} (r : Rd E h xs w) {i : Nat} (hi : i ≤ xs.length) : Rd E (h.cut E.sz i h.len h.cap) (xs.drop i) w := by
 have := r.cutT hi
 rwa [← r.len] at this
theorem minL {a b : Nat} (h : a ≤ b) : a = Nat.min a b := (Nat.min_eq_left h).symm
theorem minR {a b : Nat} (h : b ≤ a) : b = Nat.min a b := (Nat.min_eq_right h).symm
theorem takeAll {α : Type} {xs : List α} {i : Nat} : (xs.drop i).take (xs.drop i).length = xs.drop i := List.take_length
def catN {α : Type} (L : List (SH × List α)) (i : Nat) : List α := (L.take i).flatMap (·.2)
theorem cat_succ {α : Type} {L : List (SH × List α)} {i : Nat} {p : SH × List α} (h : L[i]? = some p) : catN L (i + 1) = catN L i ++ p.2 := by
 have hlt := (List.getElem?_eq_some_iff.1 h).1
 have hp := (List.getElem?_eq_some_iff.1 h).2
 unfold catN
 rw [List.take_add_one, h]
 simp
theorem cat_zero {α : Type} {L : List (SH × List α)} : catN L 0 = [] := rfl
theorem cat_all {α : Type} {L : List (SH × List α)} : catN L L.length = L.flatMap (·.2) := by simp [catN]
theorem cat_le {α : Type} {L : List (SH × List α)} (i : Nat) : (catN L i).length ≤ (L.flatMap (·.2)).length := by
 have h : L.flatMap (·.2) = catN L i ++ (L.drop i).flatMap (·.2) := by
  unfold catN
  rw [← List.flatMap_append, List.take_append_drop]
 rw [h]; simp
theorem cells_agg (cs : Array Value) : (Value.agg cs).cells = cs := rfl
end Go.Eng
namespace Go.Eng
def nanB (b : Nat) : Bool := decide (9218868437227405312 < b % 9223372036854775808)
theorem cmp_self (z : Int) : (compare z z == Ordering.eq) = true := by
 have : compare z z = Ordering.eq := by rw [Int.compare_eq_eq]
 rw [this]; rfl
theorem order_self (b : Nat) : (Ieee.double.order b b == some Ordering.eq) = !nanB b := by
 have e1 : Ieee.double.signWeight = 9223372036854775808 := by decide
 have e2 : Ieee.double.infRung = 9218868437227405312 := by decide
 have e3 : Ieee.double.binade = 4503599627370496 := by decide
 unfold Ieee.Format.order Ieee.Format.read nanB
 simp only [e1, e2, e3]
 generalize b % 9223372036854775808 = r
 generalize (b / 9223372036854775808 % 2 == 1) = s
 by_cases h1 : r < 4503599627370496
 ·have h : ¬ 9218868437227405312 < r := by omega
  simp only [h1, if_true, h, decide_false, Bool.not_false, Ieee.Datum.order]
  show (some (compare _ _) == some Ordering.eq) = true
  exact cmp_self _
 ·by_cases h2 : r < 9218868437227405312
  ·have h : ¬ 9218868437227405312 < r := by omega
   simp only [h1, h2, if_true, if_false, h, decide_false, Bool.not_false, Ieee.Datum.order]
   show (some (compare _ _) == some Ordering.eq) = true
   exact cmp_self _
  ·by_cases h3 : r = 9218868437227405312
   ·subst h3
    simp only [h1, h2, if_true, if_false, Ieee.Datum.order]
    cases s <;> rfl
   ·have h : 9218868437227405312 < r := by omega
    simp only [h1, h2, h3, if_false, h, decide_true, Bool.not_true, Ieee.Datum.order]
    rfl
def canonB (b : Nat) : Nat := if nanB b then 9221120237041090561 else b
theorem canon_canon (b : Nat) : canonB (canonB b) = canonB b := by
 unfold canonB
 cases h : nanB b
 ·simp [h]
 ·simp
section
variable {P : Program} {ι : Io} {F : HP} {n : Nat} {ρ : List (Nat × Value)} {l : List HP} {K : Act → World → Prop} {Q : Exit → Act → World → Prop} {all : Array Oper} {rest : List Oper}
variable {d : Nat} {ty : TypeId} {pos : String} {aft : Array Edge} {dst : Option Nat} {gd : Option (Nat × Bool)}
theorem y_neSelf {x y : Operand} {t t' : TypeId} {b : Nat} (hx : ev ρ x = some (.float .f64 b)) (hy : ev ρ y = some (.float .f64 b)) : Yld P ι F n ρ l ⟨dst, .binOp .neq t x y t', ty, pos, aft, gd⟩ (.bool (nanB b)) :=
 y_bin _ hx hy (fun w => by simp [eqGuard]) (fun w => by
  have h : (Ieee.double.order b b != some Ordering.eq) = nanB b := by
   show (!(Ieee.double.order b b == some Ordering.eq)) = _
   rw [order_self, Bool.not_not]
  show (Op.floatCmp .neq .f64 b b).run P w = _
  unfold Op.floatCmp
  have h2 : (FloatKind.f64.format.order b b != some Ordering.eq) = nanB b := h
  simp [h2])
theorem y_ext {f : FuncId} {fn : Func} (hf : P.funcs[f]? = some fn) (hb : fn.body = none) (hnm : (fn.name == "runtime.NumGoroutine") = false) (hnx : Extern.findNext fn = none) {g : Array Value → Sem Value} (hg : Extern.find fn = some g)
  {xs : Array Operand} {ats : Array TypeId} {c : Operand} (hc : ev ρ c = some (.func (.func f) #[] #[])) (args : List Value) (hargs : xs.toList.map (ev ρ) = args.map some) (v : Value) (hr : ∀ w, (g args.toArray).run P w = .ok v w) :
  Yld P ι F n ρ l ⟨dst, .call { callee := .value c, args := xs, argTypes := ats }, ty, pos, aft, gd⟩ v := fun a w he hw => by
 have hnm' : ¬ (fn.name = "runtime.NumGoroutine") := by simpa using hnm
 have aux : ∀ (xs : List Operand) (us : List Value), xs.map (ev ρ) = us.map some → xs.map a.eval = us := by
  intro xs
  induction xs with
  | nil => intro us h; cases us <;> simp_all
  | cons x xs ih => intro us h; cases us with
   | nil => simp at h
   | cons u us => simp at h; simp [he.eval h.1, ih us h.2]
 have e : xs.map a.eval = args.toArray := by apply Array.ext'; simp [aux _ _ hargs]
 have hcall : (callFunc f args.toArray).run P w = .ok (.value v) w := by
  have := hr w
  simp [callFunc, program, Sem.run, hf, hb, hnm', mark, hnx, hg] at this ⊢
  simp [this]
 simp only [execOp, resolve, he.eval hc, Deferred.ofValue, invoke, Sem.run_bind, Sem.run_pure, Result.andThen_ok, e]
 simpa using hcall
end
section
variable {P : Program}
theorem run_part1 {t : TypeId} (h : TyOne P t) {cs : Array Value} {o : Nat} {v : Value} (hv : cs[o]? = some v) (w : World) : (part t cs o).run P w = .ok v w := by
 simp [part, run_isAgg1 h, hv]
theorem run_partA {t : TypeId} {s : Nat} (h : TyAgg P t s) (cs : Array Value) (o : Nat) (w : World) : (part t cs o).run P w = .ok (.agg (cs.extract o (o + s))) w := by
 simp [part, run_isAggA h, run_sizeOf h.size]
theorem eqF_cons {f : Field} {fs : List Field} {d : Nat} {xs ys : Array Value} {a b : Value} {r q : Bool} {w : World} (hn : (f.name != "_") = true) (h1 : (part f.type xs f.offset).run P w = .ok a w) (h2 : (part f.type ys f.offset).run P w = .ok b w)
  (h3 : (Op.equalIn d f.type a b).run P w = .ok r w) (h4 : (Op.eqFields d xs ys fs).run P w = .ok q w) : (Op.eqFields d xs ys (f :: fs)).run P w = .ok (r && q) w := by
 have hn' : f.name ≠ "_" := by simpa using hn
 simp only [Op.eqFields, if_pos hn', Sem.run_bind, h1, h2, h3, Result.andThen_ok, Sem.run_ite]
 cases r
 ·simp
 ·simpa using h4
theorem eqF_nil {d : Nat} {xs ys : Array Value} {w : World} : (Op.eqFields d xs ys []).run P w = .ok true w := by simp [Op.eqFields]
end
def resOne (r : ResultVar) (tmps : Array Value) : Sem Value := match r with
 | .tmp t => pure (tmps.getD t undef)
 | .cell a t => do loadVar t (← asAddr (tmps.getD a undef))
theorem results_eq (fn : Func) (tmps : Array Value) : results fn tmps = (do let vs ← fn.results.mapM (fun r => resOne r tmps); pure (if h : vs.size = 1 then vs[0] else .tuple vs)) := by
 unfold results
 congr 1
section
variable {P : Program} {ι : Io} {F : HP} {n : Nat} {ρ : List (Nat × Value)} {l : List HP}
def Res (P : Program) (ι : Io) (F : HP) (n : Nat) (ρ : List (Nat × Value)) (l : List HP) (r : ResultVar) (v : Value) : Prop :=
 ∀ a w, Env n ρ a → Holds ι w (sep (seps l) F) → (resOne r a.tmps).run P w = .ok v w
theorem res_t {t : Nat} {v : Value} (hv : lk ρ t = some v) : Res P ι F n ρ l (.tmp t) v := fun a w he _ => by simp [resOne, he.val _ _ hv]
theorem res_1 (i : Nat) {A : HP} (hA : nth l i = some A) {t b : Nat} {ad : Addr} {c : Value} (ht : TyOne P t) (hb : lk ρ b = some (.pointer (some ad))) (hc : Vis A (fun w => w.cell? ad = some c)) : Res P ι F n ρ l (.cell b t) c := fun a w he hw => by
 simp [resOne, he.val _ _ hb, asAddr, run_loadVar1 ht (hc ι w (VC.chunk hw hA))]
theorem res_a (i : Nat) {A : HP} (hA : nth l i = some A) {t b : Nat} {ad : Addr} {cs : List Value} (ht : TyAgg P t cs.length) (hb : lk ρ b = some (.pointer (some ad))) (hc : Vis A (fun w => ∀ j c, cs[j]? = some c → w.cell? (ad.add j) = some c)) : Res P ι F n ρ l (.cell b t) (.agg cs.toArray) := fun a w he hw => by
 simp [resOne, he.val _ _ hb, asAddr, run_loadVarA ht (hc ι w (VC.chunk hw hA))]
def ResL (P : Program) (ι : Io) (F : HP) (n : Nat) (ρ : List (Nat × Value)) (l : List HP) : List ResultVar → List Value → Prop
 | [], [] => True
 | r :: rs, v :: vs => Res P ι F n ρ l r v ∧ ResL P ι F n ρ l rs vs
 | _, _ => False
theorem resL_nil : ResL P ι F n ρ l [] [] := trivial
theorem resL_cons {r : ResultVar} {rs : List ResultVar} {v : Value} {vs : List Value} (h : Res P ι F n ρ l r v) (hs : ResL P ι F n ρ l rs vs) : ResL P ι F n ρ l (r :: rs) (v :: vs) := ⟨h, hs⟩
theorem resL_run {rs : List ResultVar} {vs : List Value} (h : ResL P ι F n ρ l rs vs) {a : Act} {w : World} (he : Env n ρ a) (hw : Holds ι w (sep (seps l) F)) : (rs.mapM fun r => resOne r a.tmps).run P w = .ok vs w := by
 induction rs generalizing vs with
 | nil => cases vs with
  | nil => simp
  | cons v vs => exact h.elim
 | cons r rs ih => cases vs with
  | nil => exact h.elim
  | cons v vs => simp only [List.mapM_cons, Sem.run_bind, h.1 a w he hw, Result.andThen_ok, ih h.2, Sem.run_pure]
def tupV : List Value → Value
 | [v] => v
 | vs => .tuple vs.toArray
theorem vc_endR {fn : Func} {rs : List ResultVar} (hrs : fn.results = rs.toArray) {vs : List Value} (hv : ResL P ι F n ρ l rs vs) {Post : Value → List HP → Prop} (l' : List HP) (hl : Ent (seps l) (seps l')) (h : Post (tupV vs) l') :
  VC ι F n (bodyPost P fn (fun e w' => ∃ v l', Post v l' ∧ e = .returned v ∧ Holds ι w' (sep (seps l') F)) .ret) ρ l := fun a w he hw =>
 ⟨he.defers, tupV vs, by
  rw [results_eq, hrs, Array.mapM_eq_mapM_toList]
  simp only [map_eq_pure_bind, Sem.run_bind, resL_run hv he hw, Result.andThen_ok, Sem.run_pure]
  match vs with
  | [] => rfl
  | [v] => rfl
  | v :: v' :: vs => simp [tupV], _, l', h, rfl, hw.ent (Ent.sep hl Ent.rfl)⟩
end
end Go.Eng
namespace Go.Eng
theorem bl_irrefl : ∀ (a : List UInt8), Op.bytesLess a a = false
 | [] => rfl
 | x :: a => by simp [Op.bytesLess, bl_irrefl a]
theorem bl_trans : ∀ (a b c : List UInt8), Op.bytesLess a b = true → Op.bytesLess b c = true → Op.bytesLess a c = true
 | _, _, [], _, h => by simp [Op.bytesLess] at h
 | _, [], _ :: _, h, _ => by simp [Op.bytesLess] at h
 | [], _ :: _, _ :: _, _, _ => rfl
 | x :: a, y :: b, z :: c, h, h' => by
  simp only [Op.bytesLess, Bool.or_eq_true, decide_eq_true_eq, Bool.and_eq_true, beq_iff_eq] at h h' ⊢
  rcases h with h | ⟨rfl, h⟩
  ·rcases h' with h' | ⟨rfl, _⟩
   ·exact .inl (UInt8.lt_trans h h')
   ·exact .inl h
  ·rcases h' with h' | ⟨rfl, h'⟩
   ·exact .inl h'
   ·exact .inr ⟨rfl, bl_trans a b c h h'⟩
theorem bl_total : ∀ (a b : List UInt8), Op.bytesLess a b = true ∨ a = b ∨ Op.bytesLess b a = true
 | [], [] => .inr (.inl rfl)
 | [], _ :: _ => .inl rfl
 | _ :: _, [] => .inr (.inr rfl)
 | x :: a, y :: b => by
  simp only [Op.bytesLess, Bool.or_eq_true, decide_eq_true_eq, Bool.and_eq_true, beq_iff_eq]
  rcases Nat.lt_trichotomy x.toNat y.toNat with h | h | h
  ·exact .inl (.inl (UInt8.lt_iff_toNat_lt.2 h))
  ·have : x = y := UInt8.toNat_inj.1 h
   subst this
   rcases bl_total a b with h | h | h
   ·exact .inl (.inr ⟨rfl, h⟩)
   ·exact .inr (.inl (by rw [h]))
   ·exact .inr (.inr (.inr ⟨rfl, h⟩))
  ·exact .inr (.inr (.inl (UInt8.lt_iff_toNat_lt.2 h)))
theorem ba_toList (a : ByteArray) : a.toList = a.data.toList := by
 have : ∀ (bs : ByteArray) (i : Nat) (r : List UInt8), ByteArray.toList.loop bs i r = r.reverse ++ bs.data.toList.drop i := by
  intro bs i r
  fun_induction ByteArray.toList.loop bs i r with
  | case1 i r h ih =>
   rw [ih]
   have h' : i < bs.data.toList.length := h
   rw [List.drop_eq_getElem_cons h']
   have hd : i < bs.data.size := by simpa using h'
   have : bs.get! i = bs.data.toList[i] := by simp only [ByteArray.get!]; rw [getElem!_pos bs.data i hd]; rfl
   simp [this]
  | case2 i r h =>
   have h' : bs.data.toList.length ≤ i := Nat.le_of_not_lt h
   simp [List.drop_eq_nil_of_le h']
 simpa [ByteArray.toList] using this a 0 []
theorem ba_ext {a b : ByteArray} (h : a.toList = b.toList) : a = b := by
 rw [ba_toList, ba_toList] at h
 cases a; cases b
 simp at h
 subst h; rfl
theorem sEq_iff {a b : ByteArray} : sEq a b = true ↔ a = b := by
 unfold sEq
 simp only [beq_iff_eq]
 exact ⟨ba_ext, fun h => by rw [h]⟩
theorem sEq_self (a : ByteArray) : sEq a a = true := sEq_iff.2 rfl
theorem sEq_false {a b : ByteArray} : sEq a b = false ↔ a ≠ b := by
 rw [← Bool.not_eq_true, sEq_iff]
theorem sLt_irrefl (a : ByteArray) : sLt a a = false := bl_irrefl _
theorem sLt_trans {a b c : ByteArray} (h : sLt a b = true) (h' : sLt b c = true) : sLt a c = true := bl_trans _ _ _ h h'
theorem sLt_total (a b : ByteArray) : sLt a b = true ∨ a = b ∨ sLt b a = true := by
 rcases bl_total a.toList b.toList with h | h | h
 ·exact .inl h
 ·exact .inr (.inl (ba_ext h))
 ·exact .inr (.inr h)
theorem sLt_asymm {a b : ByteArray} (h : sLt a b = true) : sLt b a = false := by
 cases h' : sLt b a with
 | false => rfl
 | true => rw [← sLt_irrefl a, sLt_trans h h']
theorem sLt_ne {a b : ByteArray} (h : sLt a b = true) : a ≠ b := fun e => by subst e; rw [sLt_irrefl] at h; cases h
theorem not_sLt {a b : ByteArray} (h : sLt a b = false) : a = b ∨ sLt b a = true := by
 rcases sLt_total a b with h' | h' | h'
 ·rw [h'] at h; cases h
 ·exact .inl h'
 ·exact .inr h'
def Rise : List ByteArray → Prop
 | [] => True
 | a :: l => (∀ b ∈ l, sLt a b = true) ∧ Rise l
def lb : List ByteArray → ByteArray → Nat
 | [], _ => 0
 | a :: l, k => if sLt a k then lb l k + 1 else 0
def fnd (l : List ByteArray) (k : ByteArray) : Bool := match l[lb l k]? with
 | some x => sEq x k
 | none => false
theorem lb_le (l : List ByteArray) (k : ByteArray) : lb l k ≤ l.length := by
 induction l with
 | nil => simp [lb]
 | cons a l ih => simp only [lb, List.length_cons]; split <;> omega
theorem lb_iff {l : List ByteArray} (hr : Rise l) (k : ByteArray) {i : Nat} (hi : i < l.length) : sLt l[i] k = true ↔ i < lb l k := by
 induction l generalizing i with
 | nil => simp at hi
 | cons a l ih =>
  simp only [lb]
  cases i with
  | zero => simp only [List.getElem_cons_zero]; split <;> simp_all
  | succ i =>
   simp only [List.getElem_cons_succ]
   have hi' : i < l.length := by simpa using hi
   have h1 := ih hr.2 hi'
   split
   ·rw [h1]; omega
   ·rename_i ha
    constructor
    ·intro h
     exact absurd (sLt_trans (hr.1 _ (List.getElem_mem hi')) h) ha
    ·intro h; omega
theorem shr1 (i j : Nat) : ((i : Int) + (j : Int)).fdiv (2 ^ (min (1 : Int).toNat IntKind.u64.bits)) = (((i + j) / 2 : Nat) : Int) := by
 have : (min (1 : Int).toNat IntKind.u64.bits) = 1 := by decide
 rw [this, Int.fdiv_eq_ediv_of_nonneg _ (by decide)]
 omega
end Go.Eng
namespace Go.Proofs.YtcpbibdbahfgaaaGreat
open Go.Eng
namespace FBase
theorem ca_227 : Callable Tryz.prog 227 := ⟨_, _, Tryz.func227, rfl, rfl⟩
theorem sl_136 : TySl Tryz.prog 136 9 1 := ⟨Tryz.underlying136, by kernel_rfl⟩
theorem one_9 : TyOne Tryz.prog 9 := ⟨⟨_, Tryz.underlying9, rfl⟩, by kernel_rfl⟩
theorem ca_197 : Callable Tryz.prog 197 := ⟨_, _, Tryz.func197, rfl, rfl⟩
theorem ca_198 : Callable Tryz.prog 198 := ⟨_, _, Tryz.func198, rfl, rfl⟩
end FBase
open FBase
def eStr : Enc ByteArray := ⟨9, 1, fun s => [.string s], fun _ => rfl, fun _ c h => by simp at h; subst h; rfl, by decide⟩
def eInt : Enc Int := ⟨3, 1, fun n => [.int .i64 n], fun _ => rfl, fun _ c h => by simp at h; subst h; rfl, by decide⟩
def eU64 : Enc Int := ⟨34, 1, fun n => [.int .u64 n], fun _ => rfl, fun _ c h => by simp at h; subst h; rfl, by decide⟩
theorem isNaNs_spec (a : ByteArray) : Does Tryz.prog 227 [.string a] [] (fun v l => v = .bool false ∧ l = []) := by
 refine spec_of Tryz.func227 rfl Tryz.ntmps227 Tryz.results227 _ (by simp) fun ι F => ?_
 refine vc_seq ?_
 refine vc_region ?_
 refine vp ?_
 refine vc_nil ?_
 refine vc_then ?_
 refine vc_seq ?_
 refine vc_region ?_
 iterate 4 refine vp ?_
 refine vc_nil ?_
 refine vc_then ?_
 refine vc_ret ?_
 exact vc_end1 Tryz.results227 rfl _ (ent_pick [] rfl) ⟨by rw [sEq_self]; rfl, rfl⟩
theorem isNaNs2_spec (a : ByteArray) : Does Tryz.prog 198 [.string a] [] (fun v l => v = .bool false ∧ l = []) := by
 refine spec_of Tryz.func198 rfl Tryz.ntmps198 Tryz.results198 _ (by simp) fun ι F => ?_
 refine vc_seq ?_
 refine vc_region ?_
 refine vp ?_
 refine vc_nil ?_
 refine vc_then ?_
 refine vc_seq ?_
 refine vc_region ?_
 iterate 4 refine vp ?_
 refine vc_nil ?_
 refine vc_then ?_
 refine vc_ret ?_
 exact vc_end1 Tryz.results198 rfl _ (ent_pick [] rfl) ⟨by rw [sEq_self]; rfl, rfl⟩
theorem lessS_spec (a b : ByteArray) : Does Tryz.prog 197 [.string a, .string b] [] (fun v l => v = .bool (sLt a b) ∧ l = []) := by
 refine spec_of Tryz.func197 rfl Tryz.ntmps197 Tryz.results197 _ (by simp) fun ι F => ?_
 refine vc_seq ?_
 refine vc_region ?_
 refine vp ?_
 refine vc_nil ?_
 refine vc_then ?_
 refine vc_seq ?_
 refine vc_region ?_
 refine vp ?_
 refine vc_callv ca_227 (us := []) (vs := []) rfl [_] rfl [] rfl (isNaNs_spec _) rfl ?_
 rintro _ _ ⟨rfl, rfl⟩
 refine vp ?_
 refine vc_guardF 7 rfl rfl rfl rfl ?_
 refine vc_guardF 7 rfl rfl rfl rfl ?_
 refine vc_guardF 7 rfl rfl rfl rfl ?_
 refine vp ?_
 refine vp ?_
 refine vc_guardT 12 rfl rfl ?_
 refine vp ?_
 refine vc_guardT 12 rfl rfl ?_
 refine vp ?_
 refine vc_guardT 12 rfl rfl ?_
 iterate 3 refine vp ?_
 refine vc_nil ?_
 refine vc_then ?_
 refine vc_ret ?_
 exact vc_end1 Tryz.results197 rfl _ (ent_pick [] rfl) ⟨rfl, rfl⟩
theorem bsS_spec {A : HP} {h : SH} {xs : List ByteArray} (hv : Vis A (Rd eStr h xs)) (hr : Rise xs) (k : ByteArray) (hb : xs.length ≤ 4611686018427387903) :
  Does Tryz.prog 168 [h.v, .string k] [A] (fun v l => v = .tuple #[.int .i64 (lb xs k : Int), .bool (fnd xs k)] ∧ l = [A]) := by
 refine spec_of Tryz.func168 rfl Tryz.ntmps168 Tryz.results168 _ (by simp) fun ι F => ?_
 refine vc_see 0 rfl (hv.imp fun w r => r.len) (fun hlen => ?_)
 have hlb := lb_le xs k
 refine vc_seq ?_
 refine vc_region ?_
 refine vp ?_
 refine vp ?_
 refine vc_nil ?_
 refine vc_then ?_
 refine vc_seq ?_
 refine vc_region ?_
 refine vp ?_
 refine vc_y (y_len Tryz.underlying136 rfl (by first | assumption | rfl)) rfl ?_
 refine vp ?_
 refine vc_nil ?_
 refine vc_then ?_
 refine vc_seq ?_
 refine vc_region ?_
 iterate 3 refine vp ?_
 refine vc_nil ?_
 refine vc_then ?_
 refine vc_seq ?_
 refine vc_block ?_
 refine vc_loop (α := Nat × Nat) (fun x => match x with | (i, j) => [(0, h.v), (1, .string k), (6, .int .i64 (xs.length : Int)), (7, .int .i64 (i : Int)), (8, .int .i64 (j : Int))]) (fun x => match x with | (i, j) => [A]) (fun x => match x with | (i, j) => j - i) (fun x => match x with | (i, j) => i ≤ lb xs k ∧ lb xs k ≤ j ∧ j ≤ xs.length) (0, xs.length) ⟨Nat.zero_le _, hlb, Nat.le_refl _⟩ ⟨rfl, rfl, rfl, rfl, rfl, trivial⟩ (ent_pick [0] rfl) ?_
 rintro ⟨i, j⟩ ⟨h1, h2, h3⟩
 show VC _ _ _ _ [(0, h.v), (1, .string k), (6, .int .i64 (xs.length : Int)), (7, .int .i64 (i : Int)), (8, .int .i64 (j : Int))] ([A])
 refine vc_seq ?_
 refine vc_seq ?_
 refine vc_region ?_
 iterate 3 refine vp ?_
 refine vc_nil ?_
 refine vc_then ?_
 first | refine vc_condP rfl (fun c15 => ?_) (fun c15 => ?_) | refine vc_condN rfl (fun c15 => ?_) (fun c15 => ?_) | refine vc_cond rfl (fun c15 => ?_) (fun c15 => ?_)
 ·skip
  refine vc_skip ?_
  refine vc_then ?_
  refine vc_block ?_
  refine vc_seq ?_
  refine vc_region ?_
  refine vp ?_
  refine vp ?_
  first | refine vc_y (y_arith _ rfl (wrap64 (by omega) (by omega))) rfl ?_ | refine vp ?_
  first | refine vc_y (y_conv _ Tryz.underlying3 Tryz.underlying170 rfl (wrapU64 (by omega) (by omega))) rfl ?_ | refine vc_y (y_conv _ Tryz.underlying3 Tryz.underlying170 rfl rfl) rfl ?_
  refine vc_y (y_shr (((i + j) / 2 : Nat) : Int) rfl rfl (by decide) (shr1 i j)) rfl ?_
  first | refine vc_y (y_conv _ Tryz.underlying170 Tryz.underlying3 rfl (wrap64 (by omega) (by omega))) rfl ?_ | refine vc_y (y_conv _ Tryz.underlying170 Tryz.underlying3 rfl rfl) rfl ?_
  refine vp ?_
  refine vc_nil ?_
  refine vc_then ?_
  refine vc_seq ?_
  refine vc_region ?_
  refine vp ?_
  refine vp ?_
  refine vc_y (y_elem 0 rfl (hv) _ rfl (by first | assumption | omega) sl_136 rfl rfl) rfl ?_
  refine vc_y (y_load1 0 rfl one_9 rfl (Rd.vis1 (hv) (List.getElem?_eq_getElem (by first | assumption | omega)) rfl)) rfl ?_
  refine vp ?_
  refine vc_callv ca_197 (us := []) (vs := []) rfl [_, _] rfl [] rfl (lessS_spec _ _) rfl ?_
  rintro _ _ ⟨rfl, rfl⟩
  refine vc_nil ?_
  refine vc_then ?_
  first | refine vc_condP rfl (fun c27 => ?_) (fun c27 => ?_) | refine vc_condN rfl (fun c27 => ?_) (fun c27 => ?_) | refine vc_cond rfl (fun c27 => ?_) (fun c27 => ?_)
  ·skip
   refine vc_region ?_
   refine vp ?_
   first | refine vc_y (y_arith _ rfl (wrapNadd (by omega))) rfl ?_ | refine vc_y (y_arith _ rfl (wrap64 (by omega) (by omega))) rfl ?_ | refine vp ?_
   refine vp ?_
   refine vc_nil ?_
   refine vc_inNormal ?_
   refine vc_then ?_
   first | exact vc_again (x := (i, j)) ((i + j) / 2 + 1, j) ⟨by have := (lb_iff hr k (i := (i + j) / 2) (by omega)).1 c27; omega, h2, h3⟩ (by show j - ((i + j) / 2 + 1) < j - i; omega) ⟨rfl, rfl, rfl, rfl, rfl, trivial⟩ (ent_pick [0] rfl) | exact vc_again (x := (i, j)) (i, (i + j) / 2) ⟨h1, by have := mt (lb_iff hr k (i := (i + j) / 2) (by omega)).2 (by rw [c27]; simp); omega, by omega⟩ (by show (i + j) / 2 - i < j - i; omega) ⟨rfl, rfl, rfl, rfl, rfl, trivial⟩ (ent_pick [0] rfl)
  ·skip
   refine vc_region ?_
   refine vp ?_
   refine vp ?_
   refine vc_nil ?_
   refine vc_inNormal ?_
   refine vc_then ?_
   first | exact vc_again (x := (i, j)) ((i + j) / 2 + 1, j) ⟨by have := (lb_iff hr k (i := (i + j) / 2) (by omega)).1 c27; omega, h2, h3⟩ (by show j - ((i + j) / 2 + 1) < j - i; omega) ⟨rfl, rfl, rfl, rfl, rfl, trivial⟩ (ent_pick [0] rfl) | exact vc_again (x := (i, j)) (i, (i + j) / 2) ⟨h1, by have := mt (lb_iff hr k (i := (i + j) / 2) (by omega)).2 (by rw [c27]; simp); omega, by omega⟩ (by show (i + j) / 2 - i < j - i; omega) ⟨rfl, rfl, rfl, rfl, rfl, trivial⟩ (ent_pick [0] rfl)
 ·skip
  obtain rfl : i = lb xs k := by omega
  refine vc_exit ?_
  refine vc_thenExit ?_
  refine vc_thenExit ?_
  refine vc_inExit ?_
  refine vc_then ?_
  refine vc_seq ?_
  refine vc_region ?_
  iterate 5 refine vp ?_
  first | refine vc_splitP 35 rfl (fun c35 => ?_) (fun c35 => ?_) | refine vc_splitN 35 rfl (fun c35 => ?_) (fun c35 => ?_) | refine vc_split 35 rfl (fun c35 => ?_) (fun c35 => ?_)
  ·skip
   refine vc_guardT 35 rfl rfl ?_
   refine vp ?_
   refine vc_guardT 35 rfl rfl ?_
   refine vp ?_
   refine vc_guardT 35 rfl rfl ?_
   refine vc_y (y_elem 0 rfl (hv) _ rfl (by first | assumption | omega) sl_136 rfl rfl) rfl ?_
   refine vc_guardT 35 rfl rfl ?_
   refine vc_y (y_load1 0 rfl one_9 rfl (Rd.vis1 (hv) (List.getElem?_eq_getElem (by first | assumption | omega)) rfl)) rfl ?_
   refine vc_guardT 35 rfl rfl ?_
   refine vp ?_
   refine vc_guardT 35 rfl rfl ?_
   refine vp ?_
   refine vc_guardT 35 rfl rfl ?_
   refine vp ?_
   first | refine vc_splitP 42 rfl (fun c42 => ?_) (fun c42 => ?_) | refine vc_splitN 42 rfl (fun c42 => ?_) (fun c42 => ?_) | refine vc_split 42 rfl (fun c42 => ?_) (fun c42 => ?_)
   ·skip
    refine vc_guardF 42 rfl rfl rfl rfl ?_
    refine vc_guardF 42 rfl rfl rfl rfl ?_
    refine vc_guardF 42 rfl rfl rfl rfl ?_
    refine vc_guardF 42 rfl rfl rfl rfl ?_
    refine vc_guardF 42 rfl rfl rfl rfl ?_
    refine vc_guardF 42 rfl rfl rfl rfl ?_
    refine vc_guardU 48 rfl rfl rfl ?_
    refine vc_guardU 48 rfl rfl rfl ?_
    refine vc_guardF 42 rfl rfl rfl rfl ?_
    refine vc_guardT 35 rfl rfl ?_
    iterate 4 refine vp ?_
    refine vc_nil ?_
    refine vc_then ?_
    refine vc_ret ?_
    exact vc_end2 Tryz.results168 rfl rfl _ (ent_pick [0] rfl) ⟨by simp [fnd, show lb xs k < xs.length by omega, c42], rfl⟩
   ·skip
    refine vc_guardT 42 rfl rfl ?_
    refine vp ?_
    refine vc_guardT 42 rfl rfl ?_
    refine vp ?_
    refine vc_guardT 42 rfl rfl ?_
    refine vc_y (y_elem 0 rfl (hv) _ rfl (by first | assumption | omega) sl_136 rfl rfl) rfl ?_
    refine vc_guardT 42 rfl rfl ?_
    refine vc_y (y_load1 0 rfl one_9 rfl (Rd.vis1 (hv) (List.getElem?_eq_getElem (by first | assumption | omega)) rfl)) rfl ?_
    refine vc_guardT 42 rfl rfl ?_
    refine vc_callv ca_198 (us := []) (vs := []) rfl [_] rfl [] rfl (isNaNs2_spec _) rfl ?_
    rintro _ _ ⟨rfl, rfl⟩
    refine vc_guardT 42 rfl rfl ?_
    refine vp ?_
    refine vc_guardF 48 rfl rfl rfl rfl ?_
    refine vc_guardF 48 rfl rfl rfl rfl ?_
    refine vc_guardT 42 rfl rfl ?_
    refine vp ?_
    refine vc_guardT 35 rfl rfl ?_
    iterate 4 refine vp ?_
    refine vc_nil ?_
    refine vc_then ?_
    refine vc_ret ?_
    exact vc_end2 Tryz.results168 rfl rfl _ (ent_pick [0] rfl) ⟨by simp [fnd, show lb xs k < xs.length by omega, c42], rfl⟩
  ·skip
   refine vc_guardF 35 rfl rfl rfl rfl ?_
   refine vc_guardF 35 rfl rfl rfl rfl ?_
   refine vc_guardF 35 rfl rfl rfl rfl ?_
   refine vc_guardF 35 rfl rfl rfl rfl ?_
   refine vc_guardF 35 rfl rfl rfl rfl ?_
   refine vc_guardF 35 rfl rfl rfl rfl ?_
   refine vc_guardF 35 rfl rfl rfl rfl ?_
   refine vc_guardU 42 rfl rfl rfl ?_
   refine vc_guardU 42 rfl rfl rfl ?_
   refine vc_guardU 42 rfl rfl rfl ?_
   refine vc_guardU 42 rfl rfl rfl ?_
   refine vc_guardU 42 rfl rfl rfl ?_
   refine vc_guardU 42 rfl rfl rfl ?_
   refine vc_guardU 48 rfl rfl rfl ?_
   refine vc_guardU 48 rfl rfl rfl ?_
   refine vc_guardU 42 rfl rfl rfl ?_
   refine vc_guardF 35 rfl rfl rfl rfl ?_
   iterate 3 refine vp ?_
   refine vc_nil ?_
   refine vc_then ?_
   refine vc_ret ?_
   exact vc_end2 Tryz.results168 rfl rfl _ (ent_pick [0] rfl) ⟨by simp [fnd, show ¬ lb xs k < xs.length by omega], rfl⟩
end Go.Proofs.YtcpbibdbahfgaaaGreat
set_option maxHeartbeats 4000000
namespace Go.Proofs.YtcpbibdbahfgaaaGreat
open Go.Eng
namespace FVal
theorem one_4 : TyOne Tryz.prog 4 := ⟨⟨_, Tryz.underlying4, rfl⟩, by kernel_rfl⟩
theorem one_9 : TyOne Tryz.prog 9 := ⟨⟨_, Tryz.underlying9, rfl⟩, by kernel_rfl⟩
theorem one_34 : TyOne Tryz.prog 34 := ⟨⟨_, Tryz.underlying34, rfl⟩, by kernel_rfl⟩
theorem ca_171 : Callable Tryz.prog 171 := ⟨_, _, Tryz.func171, rfl, rfl⟩
theorem ca_134 : Callable Tryz.prog 134 := ⟨_, _, Tryz.func134, rfl, rfl⟩
theorem fl_45_0 : Fld Tryz.prog 45 0 0 := ⟨_, _, 0, Tryz.underlying45, rfl, rfl, by kernel_rfl⟩
theorem fl_45_1 : Fld Tryz.prog 45 1 1 := ⟨_, _, 0, Tryz.underlying45, rfl, rfl, by kernel_rfl⟩
theorem fl_45_2 : Fld Tryz.prog 45 2 2 := ⟨_, _, 0, Tryz.underlying45, rfl, rfl, by kernel_rfl⟩
theorem ca_135 : Callable Tryz.prog 135 := ⟨_, _, Tryz.func135, rfl, rfl⟩
theorem fl_135_0 : Fld Tryz.prog 135 0 0 := ⟨_, _, 0, Tryz.underlying135, rfl, rfl, by kernel_rfl⟩
theorem one_3 : TyOne Tryz.prog 3 := ⟨⟨_, Tryz.underlying3, rfl⟩, by kernel_rfl⟩
theorem fl_135_2 : Fld Tryz.prog 135 2 2 := ⟨_, _, 2, Tryz.underlying135, rfl, rfl, by kernel_rfl⟩
theorem ag_45 : TyAgg Tryz.prog 45 3 := ⟨⟨_, Tryz.underlying45, rfl⟩, by kernel_rfl⟩
theorem ca_87 : Callable Tryz.prog 87 := ⟨_, _, Tryz.func87, rfl, rfl⟩
theorem fl_135_1 : Fld Tryz.prog 135 1 1 := ⟨_, _, 0, Tryz.underlying135, rfl, rfl, by kernel_rfl⟩
theorem ze_45 : (Tryz.prog.info? 45).map (·.zero) = some (some (.agg #[.bool false, .string ⟨#[]⟩, .int .u64 0])) := by kernel_rfl
theorem bu_45_n   (w : World) : (Instr.build 45 #[]).run Tryz.prog w = .ok (.agg #[.bool false, .string ⟨#[]⟩, .int .u64 0]) w := by
 have hz := @ze_45
 exact Go.Eng.run_build (pl := [(0, 1), (1, 1), (2, 1)]) hz Tryz.underlying45 (by kernel_rfl) rfl (by simp [Instr.fill, cells_agg]) w
theorem eg_45 : Tryz.prog.eqGuardType Tryz.prog.depth 45 = false := by kernel_rfl
end FVal
open FVal
structure Val where
 num : Bool
 text : ByteArray
 bits : Int
structure Ver where
 seq : Int
 gone : Bool
 val : Val
structure Wr where
 key : ByteArray
 gone : Bool
 val : Val
structure En where
 key : ByteArray
 seq : Int
 val : Val
structure RowT where
 room : Int
 key : ByteArray
 val : Val
def Val.cs (x : Val) : List Value := [.bool x.num, .string x.text, .int .u64 x.bits]
def Ver.cs (x : Ver) : List Value := [.int .i64 x.seq, .bool x.gone, .bool x.val.num, .string x.val.text, .int .u64 x.val.bits]
def Wr.cs (x : Wr) : List Value := [.string x.key, .bool x.gone, .bool x.val.num, .string x.val.text, .int .u64 x.val.bits]
def En.cs (x : En) : List Value := [.string x.key, .int .i64 x.seq, .bool x.val.num, .string x.val.text, .int .u64 x.val.bits]
def RowT.cs (x : RowT) : List Value := [.int .i64 x.room, .string x.key, .bool x.val.num, .string x.val.text, .int .u64 x.val.bits]
def eVal : Enc Val := ⟨45, 3, Val.cs, fun _ => rfl, fun _ c h => by simp [Val.cs] at h; rcases h with rfl | rfl | rfl <;> rfl, by decide⟩
def eVer : Enc Ver := ⟨135, 5, Ver.cs, fun _ => rfl, fun _ c h => by simp [Ver.cs] at h; rcases h with rfl | rfl | rfl | rfl | rfl <;> rfl, by decide⟩
def eWr : Enc Wr := ⟨97, 5, Wr.cs, fun _ => rfl, fun _ c h => by simp [Wr.cs] at h; rcases h with rfl | rfl | rfl | rfl | rfl <;> rfl, by decide⟩
def eEn : Enc En := ⟨56, 5, En.cs, fun _ => rfl, fun _ c h => by simp [En.cs] at h; rcases h with rfl | rfl | rfl | rfl | rfl <;> rfl, by decide⟩
def eRow : Enc RowT := ⟨158, 5, RowT.cs, fun _ => rfl, fun _ c h => by simp [RowT.cs] at h; rcases h with rfl | rfl | rfl | rfl | rfl <;> rfl, by decide⟩
def val0 : Val := ⟨false, ⟨#[]⟩, 0⟩
def ver0 : Ver := ⟨0, false, val0⟩
def valEq (a b : Val) : Bool := a.num == b.num && (a.text.toList == b.text.toList && (a.bits == b.bits && true))
def valRight (x : Val) : Bool := if x.num then sEq x.text ⟨#[]⟩ && decide (((canonB x.bits.toNat : Nat) : Int) = x.bits) else decide (x.bits = 0) && decide ((x.text.size : Int) ≤ 64)
def verRight (x : Ver) : Bool := decide (1 ≤ x.seq) && (decide (x.seq ≤ 1073741824) && (valRight x.val && (!x.gone || valEq x.val val0)))
def chainFrom : Int → List Ver → Bool
 | _, [] => true
 | last, v :: r => verRight v && (decide (last < v.seq) && chainFrom v.seq r)
def chainRight (l : List Ver) : Bool := chainFrom 0 l
def lastSeq (l : List Ver) : Nat → Int
 | 0 => 0
 | i + 1 => match l[i]? with
  | some v => v.seq
  | none => 0
theorem lastSeq_succ {l : List Ver} {i : Nat} (h : i < l.length) : lastSeq l (i + 1) = l[i].seq := by simp [lastSeq, List.getElem?_eq_getElem h]
def verLast (l : List Ver) : Option Ver := if chainRight l then l[l.length - 1]? else none
def optVer (o : Option Ver) : Value := .tuple #[.agg (o.getD ver0).cs.toArray, .bool o.isSome]
theorem eqv_45 (a : Bool) (b : ByteArray) (c : Int) (a' : Bool) (b' : ByteArray) (c' : Int) : ∀ w, (Op.equalIn 10000 45 (.agg #[.bool a, .string b, .int .u64 c]) (.agg #[.bool a', .string b', .int .u64 c'])).run Tryz.prog w = .ok (a == a' && (b.toList == b'.toList && (c == c' && true))) w := fun w => by
 rw [run_equalIn_struct w _ _ _ _ (by kernel_rfl) (by kernel_rfl)]
 unfold Program.fieldsOf
 rw [Tryz.underlying45]
 show (Op.eqFields _ _ _ [_, _, _]).run _ _ = _
 refine eqF_cons (by decide) (run_part1 one_4 rfl w) (run_part1 one_4 rfl w) (run_equalIn_bool' w _ _ _ _ Tryz.underlying4) ?_
 refine eqF_cons (by decide) (run_part1 one_9 rfl w) (run_part1 one_9 rfl w) (run_equalIn_string w _ _ _ _ Tryz.underlying9) ?_
 refine eqF_cons (by decide) (run_part1 one_34 rfl w) (run_part1 one_34 rfl w) (run_equalIn_int w _ _ .u64 .u64 _ _ Tryz.underlying34) ?_
 exact eqF_nil
theorem isNaN_spec (b : Nat) : Does Tryz.prog 171 [.float .f64 b] [] (fun v l => v = .bool (nanB b) ∧ l = []) := by
 refine spec_of Tryz.func171 rfl Tryz.ntmps171 Tryz.results171 _ (by simp) fun ι F => ?_
 refine vc_seq ?_
 refine vc_region ?_
 refine vp ?_
 refine vc_nil ?_
 refine vc_then ?_
 refine vc_seq ?_
 refine vc_region ?_
 refine vp ?_
 refine vp ?_
 refine vc_y (y_neSelf rfl rfl) rfl ?_
 refine vp ?_
 refine vc_nil ?_
 refine vc_then ?_
 refine vc_ret ?_
 exact vc_end1 Tryz.results171 rfl _ (ent_pick [] rfl) ⟨rfl, rfl⟩
theorem bits_spec (b : Nat) : Does Tryz.prog 134 [.float .f64 b] [] (fun v l => v = .int .u64 ((canonB b : Nat) : Int) ∧ l = []) := by
 refine spec_of Tryz.func134 rfl Tryz.ntmps134 Tryz.results134 _ (by simp) fun ι F => ?_
 refine vc_seq ?_
 refine vc_region ?_
 refine vp ?_
 refine vc_nil ?_
 refine vc_then ?_
 refine vc_seq ?_
 refine vc_seq ?_
 refine vc_region ?_
 refine vp ?_
 refine vc_callv ca_171 (us := []) (vs := []) rfl [_] rfl [] rfl (isNaN_spec _) rfl ?_
 rintro _ _ ⟨rfl, rfl⟩
 refine vc_nil ?_
 refine vc_then ?_
 first | refine vc_condP rfl (fun c4 => ?_) (fun c4 => ?_) | refine vc_condN rfl (fun c4 => ?_) (fun c4 => ?_) | refine vc_cond rfl (fun c4 => ?_) (fun c4 => ?_)
 ·skip
  refine vc_seq ?_
  refine vc_region ?_
  refine vp ?_
  refine vc_nil ?_
  refine vc_then ?_
  refine vc_ret ?_
  refine vc_thenRet ?_
  exact vc_end1 Tryz.results134 rfl _ (ent_pick [] rfl) ⟨by simp [canonB, nanB, c4], rfl⟩
 ·skip
  refine vc_skip ?_
  refine vc_then ?_
  refine vc_seq ?_
  refine vc_region ?_
  refine vp ?_
  refine vc_y (y_ext (g := Extern.MathFloatBits.float64bits) Tryz.func140 rfl (by kernel_rfl) (by kernel_rfl) (by kernel_rfl) rfl [_] rfl (.int .u64 (b : Int)) (fun w => rfl)) rfl ?_
  refine vp ?_
  refine vc_nil ?_
  refine vc_then ?_
  refine vc_ret ?_
  exact vc_end1 Tryz.results134 rfl _ (ent_pick [] rfl) ⟨by simp [canonB, nanB, c4], rfl⟩
theorem from_spec (b : Int) : Does Tryz.prog 135 [.int .u64 b] [] (fun v l => v = .float .f64 (canonB b.toNat) ∧ l = []) := by
 refine spec_of Tryz.func135 rfl Tryz.ntmps135 Tryz.results135 _ (by simp) fun ι F => ?_
 refine vc_seq ?_
 refine vc_region ?_
 refine vp ?_
 refine vc_nil ?_
 refine vc_then ?_
 refine vc_seq ?_
 refine vc_region ?_
 refine vp ?_
 refine vc_y (y_ext (g := Extern.MathFloatBits.float64frombits) Tryz.func104 rfl (by kernel_rfl) (by kernel_rfl) (by kernel_rfl) rfl [_] rfl (.float .f64 b.toNat) (fun w => rfl)) rfl ?_
 refine vc_callv ca_134 (us := []) (vs := []) rfl [_] rfl [] rfl (bits_spec _) rfl ?_
 rintro _ _ ⟨rfl, rfl⟩
 refine vc_y (y_ext (g := Extern.MathFloatBits.float64frombits) Tryz.func104 rfl (by kernel_rfl) (by kernel_rfl) (by kernel_rfl) rfl [_] rfl (.float .f64 (canonB b.toNat)) (fun w => rfl)) rfl ?_
 refine vp ?_
 refine vc_nil ?_
 refine vc_then ?_
 refine vc_ret ?_
 exact vc_end1 Tryz.results135 rfl _ (ent_pick [] rfl) ⟨rfl, rfl⟩
theorem vright_spec (x : Val) : Does Tryz.prog 87 [.agg #[.bool x.num, .string x.text, .int .u64 x.bits]] [] (fun v l => v = .bool (valRight x) ∧ l = []) := by
 refine spec_of Tryz.func87 rfl Tryz.ntmps87 Tryz.results87 _ (by simp) fun ι F => ?_
 refine vc_seq ?_
 refine vc_region ?_
 refine vc_box [_, _, _] rfl rfl rfl (fun b1 => ?_)
 refine vp ?_
 refine vc_nil ?_
 refine vc_then ?_
 refine vc_seq ?_
 refine vc_seq ?_
 refine vc_region ?_
 refine vc_y (y_fieldP fl_45_0 0 rfl rfl) rfl ?_
 refine vc_y (y_load1 0 rfl one_4 rfl (Pts.vis rfl)) rfl ?_
 refine vc_nil ?_
 refine vc_then ?_
 first | refine vc_condP rfl (fun c4 => ?_) (fun c4 => ?_) | refine vc_condN rfl (fun c4 => ?_) (fun c4 => ?_) | refine vc_cond rfl (fun c4 => ?_) (fun c4 => ?_)
 ·skip
  refine vc_seq ?_
  refine vc_draw (by kernel_rfl) _ none [0] rfl ?_
  refine tp 0 rfl (by exact y_fieldP fl_45_1 1 rfl rfl) ?_
  refine tk 1 rfl (by exact y_load1 0 rfl one_9 rfl (Pts.vis rfl)) ?_
  refine tpp 2 ?_
  refine tpp 3 ?_
  first | refine va_splitP 8 rfl (fun c8 => ?_) (fun c8 => ?_) | refine va_splitN 8 rfl (fun c8 => ?_) (fun c8 => ?_) | refine va_split 8 rfl (fun c8 => ?_) (fun c8 => ?_)
  ·skip
   refine tg 4 8 rfl (by exact y_fieldP fl_45_2 2 rfl rfl) ?_
   refine tkg 5 8 rfl (by exact y_load1 0 rfl one_34 rfl (Pts.vis rfl)) ?_
   refine tg 8 8 rfl (by exact y_fieldP fl_45_2 2 rfl rfl) ?_
   refine tkg 9 8 rfl (by exact y_load1 0 rfl one_34 rfl (Pts.vis rfl)) ?_
   refine va_ready [6] (by kernel_rfl) rfl ?_
   refine vo_cons rfl (fun hC0 => ?_) ?_
   ·skip
    refine vc_guardT 8 rfl rfl ?_
    refine vc_callv ca_135 (us := []) (vs := []) rfl [_] rfl [] rfl (from_spec _) rfl ?_
    rintro _ _ ⟨rfl, rfl⟩
    refine vc_nil ?_
    refine vc_then ?_
    refine va_kept hC0 [0] rfl ?_
    clear hC0
    refine va_ready [7] (by kernel_rfl) rfl ?_
    refine vo_cons rfl (fun hC0 => ?_) ?_
    ·skip
     refine vc_guardT 8 rfl rfl ?_
     refine vc_callv ca_134 (us := []) (vs := []) rfl [_] rfl [] rfl (bits_spec _) rfl ?_
     rintro _ _ ⟨rfl, rfl⟩
     refine vc_nil ?_
     refine vc_then ?_
     refine va_kept hC0 [0] rfl ?_
     clear hC0
     refine tgp 10 8 ?_
     refine tpp 11 ?_
     refine tpp 12 ?_
     refine va_done (by kernel_rfl) ?_
     refine vc_then ?_
     refine vc_ret ?_
     refine vc_thenRet ?_
     exact vc_end1 Tryz.results87 rfl _ (ent_pick [] rfl) ⟨by simp [valRight, canon_canon, *], rfl⟩
    exact vo_nil
   exact vo_nil
  ·skip
   refine sk 4 8 ?_
   refine sk 5 8 ?_
   refine sk 6 8 ?_
   refine sk 7 8 ?_
   refine sk 8 8 ?_
   refine sk 9 8 ?_
   refine sk 10 8 ?_
   refine tpp 11 ?_
   refine tpp 12 ?_
   refine va_done (by kernel_rfl) ?_
   refine vc_then ?_
   refine vc_ret ?_
   refine vc_thenRet ?_
   exact vc_end1 Tryz.results87 rfl _ (ent_pick [] rfl) ⟨by simp [valRight, canon_canon, *], rfl⟩
 ·skip
  refine vc_skip ?_
  refine vc_then ?_
  refine vc_seq ?_
  refine vc_region ?_
  refine vc_y (y_fieldP fl_45_2 2 rfl rfl) rfl ?_
  refine vc_y (y_load1 0 rfl one_34 rfl (Pts.vis rfl)) rfl ?_
  refine vp ?_
  refine vp ?_
  first | refine vc_splitP 20 rfl (fun c20 => ?_) (fun c20 => ?_) | refine vc_splitN 20 rfl (fun c20 => ?_) (fun c20 => ?_) | refine vc_split 20 rfl (fun c20 => ?_) (fun c20 => ?_)
  ·skip
   refine vc_guardT 20 rfl rfl ?_
   refine vc_y (y_fieldP fl_45_1 1 rfl rfl) rfl ?_
   refine vc_guardT 20 rfl rfl ?_
   refine vc_y (y_load1 0 rfl one_9 rfl (Pts.vis rfl)) rfl ?_
   refine vc_guardT 20 rfl rfl ?_
   refine vc_y (y_strLen Tryz.underlying9 rfl) rfl ?_
   refine vc_guardT 20 rfl rfl ?_
   iterate 3 refine vp ?_
   refine vc_nil ?_
   refine vc_then ?_
   refine vc_ret ?_
   exact vc_end1 Tryz.results87 rfl _ (ent_pick [] rfl) ⟨by simp [valRight, canon_canon, *], rfl⟩
  ·skip
   refine vc_guardF 20 rfl rfl rfl rfl ?_
   refine vc_guardF 20 rfl rfl rfl rfl ?_
   refine vc_guardF 20 rfl rfl rfl rfl ?_
   refine vc_guardF 20 rfl rfl rfl rfl ?_
   refine vp ?_
   refine vp ?_
   refine vc_nil ?_
   refine vc_then ?_
   refine vc_ret ?_
   exact vc_end1 Tryz.results87 rfl _ (ent_pick [] rfl) ⟨by simp [valRight, canon_canon, *], rfl⟩
theorem cright_spec (x : Ver) : Does Tryz.prog 158 [.agg #[.int .i64 x.seq, .bool x.gone, .bool x.val.num, .string x.val.text, .int .u64 x.val.bits]] [] (fun v l => v = .bool (verRight x) ∧ l = []) := by
 refine spec_of Tryz.func158 rfl Tryz.ntmps158 Tryz.results158 _ (by simp) fun ι F => ?_
 refine vc_seq ?_
 refine vc_region ?_
 refine vc_box [_, _, _, _, _] rfl rfl rfl (fun b1 => ?_)
 refine vp ?_
 refine vc_nil ?_
 refine vc_then ?_
 refine vc_seq ?_
 refine vc_region ?_
 refine vc_y (y_fieldP fl_135_0 0 rfl rfl) rfl ?_
 refine vc_y (y_load1 0 rfl one_3 rfl (Pts.vis rfl)) rfl ?_
 refine vp ?_
 refine vp ?_
 first | refine vc_splitP 6 rfl (fun c6 => ?_) (fun c6 => ?_) | refine vc_splitN 6 rfl (fun c6 => ?_) (fun c6 => ?_) | refine vc_split 6 rfl (fun c6 => ?_) (fun c6 => ?_)
 ·skip
  refine vc_guardT 6 rfl rfl ?_
  refine vc_y (y_fieldP fl_135_0 0 rfl rfl) rfl ?_
  refine vc_guardT 6 rfl rfl ?_
  refine vc_y (y_load1 0 rfl one_3 rfl (Pts.vis rfl)) rfl ?_
  refine vc_guardT 6 rfl rfl ?_
  iterate 3 refine vp ?_
  first | refine vc_splitP 11 rfl (fun c11 => ?_) (fun c11 => ?_) | refine vc_splitN 11 rfl (fun c11 => ?_) (fun c11 => ?_) | refine vc_split 11 rfl (fun c11 => ?_) (fun c11 => ?_)
  ·skip
   refine vc_guardT 11 rfl rfl ?_
   refine vc_y (y_fieldP fl_135_2 2 rfl rfl) rfl ?_
   refine vc_guardT 11 rfl rfl ?_
   refine vc_y (y_loadA 0 rfl (cs := [_, _, _]) ag_45 rfl (Pts.visA rfl)) rfl ?_
   refine vc_guardT 11 rfl rfl ?_
   refine vc_callv ca_87 (us := []) (vs := []) rfl [_] rfl [] rfl (vright_spec x.val) rfl ?_
   rintro _ _ ⟨rfl, rfl⟩
   refine vp ?_
   refine vp ?_
   first | refine vc_splitP 16 rfl (fun c16 => ?_) (fun c16 => ?_) | refine vc_splitN 16 rfl (fun c16 => ?_) (fun c16 => ?_) | refine vc_split 16 rfl (fun c16 => ?_) (fun c16 => ?_)
   ·skip
    refine vc_guardT 16 rfl rfl ?_
    refine vc_y (y_fieldP fl_135_1 1 rfl rfl) rfl ?_
    refine vc_guardT 16 rfl rfl ?_
    refine vc_y (y_load1 0 rfl one_4 rfl (Pts.vis rfl)) rfl ?_
    refine vc_guardT 16 rfl rfl ?_
    refine vp ?_
    refine vc_guardT 16 rfl rfl ?_
    refine vp ?_
    first | refine vc_splitP 20 rfl (fun c20 => ?_) (fun c20 => ?_) | refine vc_splitN 20 rfl (fun c20 => ?_) (fun c20 => ?_) | refine vc_split 20 rfl (fun c20 => ?_) (fun c20 => ?_)
    ·skip
     refine vc_guardF 20 rfl rfl rfl rfl ?_
     refine vc_guardF 20 rfl rfl rfl rfl ?_
     refine vc_guardF 20 rfl rfl rfl rfl ?_
     refine vc_guardF 20 rfl rfl rfl rfl ?_
     refine vc_guardT 16 rfl rfl ?_
     iterate 3 refine vp ?_
     refine vc_nil ?_
     refine vc_then ?_
     refine vc_ret ?_
     exact vc_end1 Tryz.results158 rfl _ (ent_pick [] rfl) ⟨by simp [verRight, valEq, val0, *], rfl⟩
    ·skip
     refine vc_guardT 20 rfl rfl ?_
     refine vc_y (y_fieldP fl_135_2 2 rfl rfl) rfl ?_
     refine vc_guardT 20 rfl rfl ?_
     refine vc_y (y_loadA 0 rfl (cs := [_, _, _]) ag_45 rfl (Pts.visA rfl)) rfl ?_
     refine vc_guardT 20 rfl rfl ?_
     refine vc_y (y_build [] [_, _, _] rfl (bu_45_n  )) rfl ?_
     refine vc_guardT 20 rfl rfl ?_
     refine vc_y (y_eqS eg_45 (eqv_45 _ _ _ _ _ _) rfl rfl) rfl ?_
     refine vc_guardT 16 rfl rfl ?_
     iterate 3 refine vp ?_
     refine vc_nil ?_
     refine vc_then ?_
     refine vc_ret ?_
     exact vc_end1 Tryz.results158 rfl _ (ent_pick [] rfl) ⟨by simp [verRight, valEq, val0, *], rfl⟩
   ·skip
    refine vc_guardF 16 rfl rfl rfl rfl ?_
    refine vc_guardF 16 rfl rfl rfl rfl ?_
    refine vc_guardF 16 rfl rfl rfl rfl ?_
    refine vc_guardF 16 rfl rfl rfl rfl ?_
    refine vc_guardU 20 rfl rfl rfl ?_
    refine vc_guardU 20 rfl rfl rfl ?_
    refine vc_guardU 20 rfl rfl rfl ?_
    refine vc_guardU 20 rfl rfl rfl ?_
    refine vc_guardF 16 rfl rfl rfl rfl ?_
    refine vp ?_
    refine vp ?_
    refine vc_nil ?_
    refine vc_then ?_
    refine vc_ret ?_
    exact vc_end1 Tryz.results158 rfl _ (ent_pick [] rfl) ⟨by simp [verRight, valEq, val0, *], rfl⟩
  ·skip
   refine vc_guardF 11 rfl rfl rfl rfl ?_
   refine vc_guardF 11 rfl rfl rfl rfl ?_
   refine vc_guardF 11 rfl rfl rfl rfl ?_
   refine vp ?_
   refine vp ?_
   refine vc_guardF 16 rfl rfl rfl rfl ?_
   refine vc_guardF 16 rfl rfl rfl rfl ?_
   refine vc_guardF 16 rfl rfl rfl rfl ?_
   refine vc_guardF 16 rfl rfl rfl rfl ?_
   refine vc_guardU 20 rfl rfl rfl ?_
   refine vc_guardU 20 rfl rfl rfl ?_
   refine vc_guardU 20 rfl rfl rfl ?_
   refine vc_guardU 20 rfl rfl rfl ?_
   refine vc_guardF 16 rfl rfl rfl rfl ?_
   refine vp ?_
   refine vp ?_
   refine vc_nil ?_
   refine vc_then ?_
   refine vc_ret ?_
   exact vc_end1 Tryz.results158 rfl _ (ent_pick [] rfl) ⟨by simp [verRight, valEq, val0, *], rfl⟩
 ·skip
  refine vc_guardF 6 rfl rfl rfl rfl ?_
  refine vc_guardF 6 rfl rfl rfl rfl ?_
  refine vc_guardF 6 rfl rfl rfl rfl ?_
  refine vp ?_
  refine vp ?_
  refine vc_guardF 11 rfl rfl rfl rfl ?_
  refine vc_guardF 11 rfl rfl rfl rfl ?_
  refine vc_guardF 11 rfl rfl rfl rfl ?_
  refine vp ?_
  refine vp ?_
  refine vc_guardF 16 rfl rfl rfl rfl ?_
  refine vc_guardF 16 rfl rfl rfl rfl ?_
  refine vc_guardF 16 rfl rfl rfl rfl ?_
  refine vc_guardF 16 rfl rfl rfl rfl ?_
  refine vc_guardU 20 rfl rfl rfl ?_
  refine vc_guardU 20 rfl rfl rfl ?_
  refine vc_guardU 20 rfl rfl rfl ?_
  refine vc_guardU 20 rfl rfl rfl ?_
  refine vc_guardF 16 rfl rfl rfl rfl ?_
  refine vp ?_
  refine vp ?_
  refine vc_nil ?_
  refine vc_then ?_
  refine vc_ret ?_
  exact vc_end1 Tryz.results158 rfl _ (ent_pick [] rfl) ⟨by simp [verRight, valEq, val0, *], rfl⟩
end Go.Proofs.YtcpbibdbahfgaaaGreat
namespace Go.Eng
section
variable {P : Program} {ι : Io} {F : HP} {n : Nat} {ρ : List (Nat × Value)} {l : List HP} {K : Act → World → Prop} {Q : Exit → Act → World → Prop} {all : Array Oper} {rest : List Oper}
variable {d : Nat} {ty : TypeId} {pos : String} {aft : Array Edge} {dst : Option Nat} {gd : Option (Nat × Bool)}
structure TyArr (P : Program) (t : TypeId) (m : Nat) (e : TypeId) (s : Nat) : Prop where
 und : P.underlying t = some (.array m e)
 size : (P.info? e).map (·.size) = some s
theorem y_elemArr {t e : TypeId} {m s : Nat} (ht : TyArr P t m e s) {x y : Operand} {h : SH} {k : IntKind} {z : Int} (j : Nat) (hj : z = (j : Int)) (hlt : j < m) {b : Nat} (hb : h.a = some ⟨b, 0, none⟩) (hx : ev ρ x = some (.pointer (some ⟨b, 0, none⟩))) (hy : ev ρ y = some (.int k z)) :
  Yld P ι F n ρ l ⟨dst, .indexAddr t x y, ty, pos, aft, gd⟩ (.pointer (some (eAd h s j 0))) := fun a w he hw => by
 subst hj
 have hlc : (j : Int) < (m : Int) := by exact_mod_cast hlt
 simp [execOp, he.eval hx, he.eval hy, Instr.indexAt, asIntOf, run_underlying ht.und, hlt, run_sizeOf ht.size, add_lit, eAd, Instr.sureAddr, SH.blk, SH.off, hb]
theorem y_sliceArr {t e : TypeId} {m s : Nat} (ht : TyArr P t m e s) {x : Operand} {b : Nat} (hx : ev ρ x = some (.pointer (some ⟨b, 0, none⟩))) :
  Yld P ι F n ρ l ⟨dst, .slice t x none none none, ty, pos, aft, gd⟩ (.slice (some ⟨b, 0, none⟩) m m) := fun a w he hw => by
 by_cases hm : m = 0
 ·subst hm
  simp [execOp, he.eval hx, Instr.sliceAt, run_underlying ht.und, Instr.sureAddr, Instr.sliceBounds, run_sizeOf ht.size]
 ·simp [execOp, he.eval hx, Instr.sliceAt, run_underlying ht.und, Instr.sureAddr, Instr.sliceBounds, run_sizeOf ht.size, add_lit, hm]
theorem y_bytesStr (i : Nat) {A : HP} (hA : nth l i = some A) {E : Enc Int} (hE : ∀ z, E.f z = [.int .u8 z]) {h : SH} {xs : List Int} (hv : Vis A (Rd E h xs)) {b o : Nat} (hb : h.a = some ⟨b, o, none⟩) {src dst' e : TypeId} (hs : P.underlying src = some (.slice e)) (he : P.underlying e = some (.int .u8)) (hd : P.underlying dst' = some .string)
  {x : Operand} (hx : ev ρ x = some h.v) : Yld P ι F n ρ l ⟨dst, .convert src dst' x, ty, pos, aft, gd⟩ (.string (strOfNums xs)) := fun a w hev hw => by
 have hr := hv ι w (VC.chunk hw hA)
 have hsz : E.sz = 1 := by rw [← E.len 0, hE]; rfl
 have hf : flat E xs = xs.map (Value.int .u8) := by
  have : ∀ ys : List Int, flat E ys = ys.map (Value.int .u8) := fun ys => by
   induction ys with
   | nil => rfl
   | cons y ys ih => rw [flat_cons, hE, ih]; rfl
  exact this xs
 have h1 : a.eval x = .slice (some ⟨b, o, none⟩) h.len h.cap := by rw [hev.eval hx]; unfold SH.v; rw [hb]
 simp only [execOp, h1]
 have := run_convert_bytes_arg (P := P) w src e hs he b o h.len h.cap xs hr.len.symm (fun i hi => by
  have h2 := hr.cell i (.int .u8 (xs.getD i 0)) (by
   rw [hf, List.getElem?_map, List.getD_eq_getElem?_getD, List.getElem?_eq_getElem (by rw [← hr.len]; exact hi)]; rfl)
  simpa [SH.blk, SH.off, hb] using h2) dst' hd
 simp [this]
end
end Go.Eng
