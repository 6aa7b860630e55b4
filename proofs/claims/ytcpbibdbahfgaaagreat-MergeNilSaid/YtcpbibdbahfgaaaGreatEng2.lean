/-
 The engine's walk: what is known of a frame and of memory, and a rule for each kind of operation.
-/
import Derived.Test.YtcpbibdbahfgaaaGreatEng1
set_option linter.unusedVariables false
set_option linter.unusedSimpArgs false
set_option autoImplicit false
namespace Go.Eng

/-- The value of a temporary, as far as it is known. -/
def lk : List (Nat × Value) → Nat → Option Value
 | [], _ => none
 | (k, v) :: r, t => bif Nat.beq k t then some v else lk r t
structure Env (n : Nat) (ρ : List (Nat × Value)) (a : Act) : Prop where
 defers : a.defers = []
 size : a.tmps.size = n
 val : ∀ t v, lk ρ t = some v → a.tmps[t]? = some v
def ev (ρ : List (Nat × Value)) : Operand → Option Value
 | .tmp t => lk ρ t
 | .const v => some v
 | .global g => some (.pointer (some ⟨g, 0, none⟩))
 | .func f => some (.func (.func f) #[] #[])
theorem Env.eval {n : Nat} {ρ : List (Nat × Value)} {a : Act} (h : Env n ρ a) {x : Operand} {v : Value} (e : ev ρ x = some v) : a.eval x = v := by
 cases x with
 | tmp t => simp [Act.eval, h.val t v e]
 | const u => simpa [ev, Act.eval] using e
 | global g => simpa [ev, Act.eval] using e
 | func f => simpa [ev, Act.eval] using e
theorem Env.put {n : Nat} {ρ : List (Nat × Value)} {a : Act} (h : Env n ρ a) (d : Nat) (hd : Nat.blt d n = true) (v : Value) : Env n ((d, v) :: ρ) (a.put (some d) v) := by
 have hd' : d < n := by simpa [Nat.blt_eq] using hd
 refine ⟨h.defers, by simp [Act.put, h.size], fun t u e => ?_⟩
 simp only [lk] at e
 simp only [Act.put]
 by_cases ht : d = t
 ·subst ht
  simp at e
  rw [Array.getElem?_setIfInBounds]
  simp [h.size, hd', e]
 ·have : Nat.beq d t = false := by
   cases hb : Nat.beq d t with
   | false => rfl
   | true => exact absurd (Nat.eq_of_beq_eq_true hb) ht
  rw [this] at e
  rw [Array.getElem?_setIfInBounds_ne ht]
  exact h.val t u e
theorem Env.put0 {n : Nat} {ρ : List (Nat × Value)} {a : Act} (h : Env n ρ a) (v : Value) : Env n ρ (a.put none v) := h
/-- Fewer temporaries are kept in mind. -/
def keeps (ρ : List (Nat × Value)) : List (Nat × Value) → Prop
 | [] => True
 | (t, v) :: r => lk ρ t = some v ∧ keeps ρ r
theorem Env.keep {n : Nat} {ρ ρ' : List (Nat × Value)} {a : Act} (h : Env n ρ a) (k : keeps ρ ρ') : Env n ρ' a := by
 refine ⟨h.defers, h.size, ?_⟩
 induction ρ' with
 | nil => intro t v e; simp [lk] at e
 | cons p ρ' ih =>
  obtain ⟨t0, v0⟩ := p
  obtain ⟨k1, k2⟩ := k
  intro t v e
  simp only [lk] at e
  cases hb : Nat.beq t0 t with
  | true =>
   rw [hb] at e
   have := Nat.eq_of_beq_eq_true hb
   subst this
   simp at e; subst e
   exact h.val _ _ k1
  | false => rw [hb] at e; exact ih k2 t v e

/-- What is to be shown at a frame and a world of which so much is known. -/
def VC (ι : Io) (F : HP) (n : Nat) (K : Act → World → Prop) (ρ : List (Nat × Value)) (l : List HP) : Prop :=
 ∀ a w, Env n ρ a → Holds ι w (sep (seps l) F) → K a w

section
variable {P : Program} {ι : Io} {F : HP} {n : Nat} {ρ : List (Nat × Value)} {l : List HP} {K : Act → World → Prop} {Q : Exit → Act → World → Prop} {all : Array Oper} {rest : List Oper}

theorem vc_keep (ρ' : List (Nat × Value)) (k : keeps ρ ρ') (h : VC ι F n K ρ' l) : VC ι F n K ρ l := fun a w he hw => h a w (he.keep k) hw
theorem vc_imp {K' : Act → World → Prop} (h : VC ι F n K' ρ l) (hk : ∀ a w, K' a w → K a w) : VC ι F n K ρ l := fun a w he hw => hk a w (h a w he hw)
theorem vc_ent {l' : List HP} (e : Ent (seps l) (seps l')) (h : VC ι F n K ρ l') : VC ι F n K ρ l := fun a w he hw => h a w he (hw.ent (Ent.sep e Ent.rfl))
theorem vc_vs {l' : List HP} (e : VS (seps l) (seps l')) (h : VC ι F n K ρ l') : VC ι F n K ρ l := fun a w he hw => h a w he (e ι w F hw)
theorem vc_pick (is : List Nat) {s r : List HP} (e : pick is l = some (s, r)) (h : VC ι F n K ρ (s ++ r)) : VC ι F n K ρ l :=
 vc_ent ((Ent.pick e).trans Ent.append') h
/-- One of the chunks says something pure. -/
theorem vc_fact (i : Nat) {A : HP} (hA : nth l i = some A) {p : Prop} (hp : ∀ ι w, Holds ι w A → p) (h : p → VC ι F n K ρ l) : VC ι F n K ρ l :=
 fun a w he hw => h (hp ι w (((hw.ent Ent.left).ent (Ent.out hA)).ent Ent.left)) a w he hw
/-- One of the chunks is taken for others. -/
theorem vc_turn (i : Nat) {A : HP} (hA : nth l i = some A) (B : HP) (e : VS A B) (h : VC ι F n K ρ (put l i B)) : VC ι F n K ρ l := fun a w he hw => by
 refine h a w he ?_
 have h1 : Holds ι w (sep A (sep (seps (del l i)) F)) := (hw.ent (Ent.sep (Ent.out hA) Ent.rfl)).ent Ent.assoc
 exact ((e ι w _ h1).ent Ent.assoc').ent (Ent.sep (Ent.back hA) Ent.rfl)
theorem vc_drop (i : Nat) {A : HP} (hA : nth l i = some A) (h : VC ι F n K ρ (del l i)) : VC ι F n K ρ l :=
 vc_ent ((Ent.out hA).trans Ent.right) h
theorem vc_ex (i : Nat) {α : Type} {f : α → HP} (hA : nth l i = some (ex f)) (h : ∀ x, VC ι F n K ρ (put l i (f x))) : VC ι F n K ρ l := fun a w he hw => by
 have h1 : Holds ι w (sep (ex f) (sep (seps (del l i)) F)) := (hw.ent (Ent.sep (Ent.out hA) Ent.rfl)).ent Ent.assoc
 obtain ⟨g1, g2, r, x, s, x1, x2, hj, ⟨y, hy⟩, hf⟩ := h1
 refine h y a w he ?_
 have h2 : Holds ι w (sep (f y) (sep (seps (del l i)) F)) := ⟨g1, g2, r, x, s, x1, x2, hj, hy, hf⟩
 exact (h2.ent Ent.assoc').ent (Ent.sep (Ent.back hA) Ent.rfl)
theorem vc_parts (i : Nat) {A B : HP} (hA : nth l i = some (sep A B)) (h : VC ι F n K ρ (A :: B :: del l i)) : VC ι F n K ρ l :=
 vc_ent ((Ent.out hA).trans Ent.assoc) h
theorem vc_pure (i : Nat) {p : Prop} (hA : nth l i = some (lift p)) (h : p → VC ι F n K ρ (del l i)) : VC ι F n K ρ l :=
 vc_fact i hA (fun _ _ ⟨_, _, _, _, _, hp⟩ => hp) fun hp => vc_drop i hA (h hp)

theorem VC.chunk {w : World} (hw : Holds ι w (sep (seps l) F)) {i : Nat} {A : HP} (hA : nth l i = some A) : Holds ι w A :=
 ((hw.ent Ent.left).ent (Ent.out hA)).ent Ent.left

/-! ### The control -/
theorem vc_seq {x y : Code} (h : VC ι F n (x.wp P (Exit.then (y.wp P Q) Q)) ρ l) : VC ι F n ((Code.seq x y).wp P Q) ρ l := fun a w he hw => wp_seq (h a w he hw)
theorem vc_skip (h : VC ι F n (Q .normal) ρ l) : VC ι F n (Code.skip.wp P Q) ρ l := fun a w he hw => wp_skip (h a w he hw)
theorem vc_ret (h : VC ι F n (Q .ret) ρ l) : VC ι F n (Code.ret.wp P Q) ρ l := fun a w he hw => wp_ret (h a w he hw)
theorem vc_exit {id : Nat} (h : VC ι F n (Q (.exit id)) ρ l) : VC ι F n ((Code.exit id).wp P Q) ρ l := fun a w he hw => wp_exit (h a w he hw)
theorem vc_block {id : Nat} {c : Code} (h : VC ι F n (c.wp P (Exit.inBlock id Q)) ρ l) : VC ι F n ((Code.block id c).wp P Q) ρ l := fun a w he hw => wp_block (h a w he hw)
theorem vc_then {Q' : Exit → Act → World → Prop} {K : Act → World → Prop} (h : VC ι F n K ρ l) : VC ι F n (Exit.then K Q' .normal) ρ l := h
theorem vc_thenRet {Q' : Exit → Act → World → Prop} {K : Act → World → Prop} (h : VC ι F n (Q' .ret) ρ l) : VC ι F n (Exit.then K Q' .ret) ρ l := h
theorem vc_thenExit {Q' : Exit → Act → World → Prop} {K : Act → World → Prop} {id : Nat} (h : VC ι F n (Q' (.exit id)) ρ l) : VC ι F n (Exit.then K Q' (.exit id)) ρ l := h
theorem vc_inRet {id : Nat} (h : VC ι F n (Q .ret) ρ l) : VC ι F n (Exit.inBlock id Q .ret) ρ l := h
theorem vc_inNormal {id : Nat} (h : VC ι F n (Q .normal) ρ l) : VC ι F n (Exit.inBlock id Q .normal) ρ l := h
theorem vc_inExit {id : Nat} (h : VC ι F n (Q .normal) ρ l) : VC ι F n (Exit.inBlock id Q (.exit id)) ρ l := fun a w he hw => by
 have := h a w he hw
 simp [Exit.inBlock]
 exact this
theorem vc_inOther {id id' : Nat} (hne : Nat.beq id' id = false) (h : VC ι F n (Q (.exit id')) ρ l) : VC ι F n (Exit.inBlock id Q (.exit id')) ρ l := fun a w he hw => by
 have := h a w he hw
 have hne' : id' ≠ id := fun e => by subst e; simp at hne
 simp [Exit.inBlock, hne']
 exact this
theorem vc_condT {c : Operand} {x y : Code} (hc : ev ρ c = some (.bool true)) (h : VC ι F n (x.wp P Q) ρ l) : VC ι F n ((Code.cond c x y).wp P Q) ρ l :=
 fun a w he hw => wp_cond_true (he.eval hc) (h a w he hw)
theorem vc_condF {c : Operand} {x y : Code} (hc : ev ρ c = some (.bool false)) (h : VC ι F n (y.wp P Q) ρ l) : VC ι F n ((Code.cond c x y).wp P Q) ρ l :=
 fun a w he hw => wp_cond_false (he.eval hc) (h a w he hw)
theorem vc_cond {c : Operand} {x y : Code} {b : Bool} (hc : ev ρ c = some (.bool b)) (ht : b = true → VC ι F n (x.wp P Q) ρ l) (hf : b = false → VC ι F n (y.wp P Q) ρ l) :
  VC ι F n ((Code.cond c x y).wp P Q) ρ l := fun a w he hw => wp_cond_split (he.eval hc) (fun e => ht e a w he hw) (fun e => hf e a w he hw)
theorem vc_loop {c : Code} {α : Type} (ρs : α → List (Nat × Value)) (ls : α → List HP) (μ : α → Nat) (ok : α → Prop)
  (x0 : α) (h0 : ok x0) (hk : keeps ρ (ρs x0)) (hl : Ent (seps l) (seps (ls x0)))
  (round : ∀ x, ok x → VC ι F n (c.wp P (Exit.then (fun a w => ∃ y, ok y ∧ μ y < μ x ∧ Env n (ρs y) a ∧ Holds ι w (sep (seps (ls y)) F)) Q)) (ρs x) (ls x)) :
  VC ι F n ((Code.loop c).wp P Q) ρ l := by
 intro a w he hw
 have key : ∀ (m : Nat) (x : α), μ x = m → ok x → ∀ a w, Env n (ρs x) a → Holds ι w (sep (seps (ls x)) F) →
   ∀ (b : Frame) (k : List Item) (cs : List Frame), ∃ e a' w', Q e a' w' ∧ Arrives P (lone (b.at a (.code c :: .inLoop c :: k)) cs w) b k cs e a' w' := by
  intro m
  induction m using Nat.strongRecOn with
  | _ m ih =>
   intro x hm hx a w he hw b k cs
   obtain ⟨e, a₁, w₁, hq, harr⟩ := round x hx a w he hw b (.inLoop c :: k) cs
   cases e with
   | normal =>
    obtain ⟨y, hy, hlt, he', hw'⟩ := hq
    obtain ⟨e₂, a₂, w₂, hq₂, harr₂⟩ := ih (μ y) (hm ▸ hlt) y rfl hy a₁ w₁ he' hw' b k cs
    exact ⟨e₂, a₂, w₂, hq₂, .of_steps (Steps.trans harr (.one step_inLoop)) harr₂⟩
   | exit id => exact ⟨_, a₁, w₁, hq, .pass (x := .inLoop c) rfl (fun _ _ => .inl (by simp)) harr⟩
   | goto g => exact ⟨_, a₁, w₁, hq, .pass (x := .inLoop c) rfl (fun _ _ => .inl (by simp)) harr⟩
   | ret => exact ⟨_, a₁, w₁, hq, .pass (x := .inLoop c) rfl (fun _ _ => .inl (by simp)) harr⟩
   | panic ch => exact ⟨_, a₁, w₁, hq, .pass (x := .inLoop c) rfl (fun _ _ => .inl (by simp)) harr⟩
   | outgrown => exact ⟨_, a₁, w₁, hq, .pass (x := .inLoop c) rfl (fun _ _ => .inl (by simp)) harr⟩
 intro b k cs
 obtain ⟨e, a', w', hq, harr⟩ := key _ x0 rfl h0 a w (he.keep hk) (hw.ent (Ent.sep hl Ent.rfl)) b k cs
 exact ⟨e, a', w', hq, .of_steps (.one step_loop) harr⟩
/-- The round's end. -/
theorem vc_again {α : Type} {ρs : α → List (Nat × Value)} {ls : α → List HP} {μ : α → Nat} {ok : α → Prop} {x : α} (y : α) (hy : ok y) (hlt : μ y < μ x) (hk : keeps ρ (ρs y)) (hl : Ent (seps l) (seps (ls y))) :
  VC ι F n (fun a w => ∃ y, ok y ∧ μ y < μ x ∧ Env n (ρs y) a ∧ Holds ι w (sep (seps (ls y)) F)) ρ l :=
 fun a w he hw => ⟨y, hy, hlt, he.keep hk, hw.ent (Ent.sep hl Ent.rfl)⟩
/-- Ways that meet again. -/
theorem vc_cut {c : Code} {α : Type} (ρs : α → List (Nat × Value)) (ls : α → List HP) (ok : α → Prop)
  (h : VC ι F n (c.wp P (Exit.then (fun a w => ∃ y, ok y ∧ Env n (ρs y) a ∧ Holds ι w (sep (seps (ls y)) F)) Q)) ρ l)
  {K : Act → World → Prop} (k : ∀ y, ok y → VC ι F n K (ρs y) (ls y)) : VC ι F n (c.wp P (Exit.then K Q)) ρ l := fun a w he hw =>
 wp_mono (h a w he hw) (fun e a w hq => by
  cases e with
  | normal => obtain ⟨y, hy, he', hw'⟩ := hq; exact k y hy a w he' hw'
  | _ => exact hq)
theorem vc_met {α : Type} {ρs : α → List (Nat × Value)} {ls : α → List HP} {ok : α → Prop} (y : α) (hy : ok y) (hk : keeps ρ (ρs y)) (hl : Ent (seps l) (seps (ls y))) :
  VC ι F n (fun a w => ∃ y, ok y ∧ Env n (ρs y) a ∧ Holds ι w (sep (seps (ls y)) F)) ρ l :=
 fun a w he hw => ⟨y, hy, he.keep hk, hw.ent (Ent.sep hl Ent.rfl)⟩

/-! ### Regions, and operations one by one -/
theorem vc_region {id : Nat} {os : List Oper} (h : VC ι F n (wpList P os.toArray Q os) ρ l) : VC ι F n ((Code.region id os.toArray false).wp P Q) ρ l :=
 fun a w he hw => wp_region_lit (h a w he hw)
theorem vc_nil (h : VC ι F n (Q .normal) ρ l) : VC ι F n (wpList P all Q []) ρ l := fun a w he hw => wpList_nil (h a w he hw)

def putO (d : Option Nat) (v : Value) (ρ : List (Nat × Value)) : List (Nat × Value) :=
 match d with | some d => (d, v) :: ρ | none => ρ
def okO (n : Nat) : Option Nat → Bool
 | some d => Nat.blt d n
 | none => true
theorem Env.putO {a : Act} (h : Env n ρ a) (d : Option Nat) (hd : okO n d = true) (v : Value) : Env n (Eng.putO d v ρ) (a.put d v) := by
 cases d with
 | none => exact h
 | some d => exact h.put d hd v
/-- An operation whose guard lets it by: one that yields a value and leaves memory alone. -/
theorem vc_yield {o : Oper} {g : Option (Nat × Bool)} (hg : o.guard = none) (hd : okO n o.dst = true) (v : Value)
  (hrun : ∀ a w, Env n ρ a → Holds ι w (sep (seps l) F) → ∃ k, (execOp a.eval o).run P w = .ok (.value v) { w with drawn := k })
  (h : VC ι F n (wpList P all Q rest) (putO o.dst v ρ) l) : VC ι F n (wpList P all Q (o :: rest)) ρ l := fun a w he hw =>
 wpList_plain hg fun K hK => by
  obtain ⟨k, e⟩ := hrun a w he hw
  unfold Oper.wp
  rw [e]
  exact hK _ _ (h _ _ (he.putO _ hd _) (hw.drew k))
/-- An operation that yields a value and leaves memory as it is. -/
def Yld (P : Program) (ι : Io) (F : HP) (n : Nat) (ρ : List (Nat × Value)) (l : List HP) (o : Oper) (v : Value) : Prop :=
 ∀ a w, Env n ρ a → Holds ι w (sep (seps l) F) → (execOp a.eval o).run P w = .ok (.value v) w
theorem vc_y {d : Nat} {op : Op} {ty : TypeId} {pos : String} {aft : Array Edge} {v : Value} (hy : Yld P ι F n ρ l ⟨some d, op, ty, pos, aft, none⟩ v) (hd : Nat.blt d n = true)
  (h : VC ι F n (wpList P all Q rest) ((d, v) :: ρ) l) : VC ι F n (wpList P all Q (⟨some d, op, ty, pos, aft, none⟩ :: rest)) ρ l :=
 vc_yield (g := none) (o := ⟨some d, op, ty, pos, aft, none⟩) rfl hd v (fun a w he hw => ⟨w.drawn, hy a w he hw⟩) h
/-- A guard that is known. -/
theorem vc_guardT {d : Option Nat} {op : Op} {ty : TypeId} {pos : String} {aft : Array Edge} {j : Nat} {b : Bool} (t : Nat) (hj : (all[j]?).bind (·.dst) = some t) (hb : lk ρ t = some (.bool b))
  (h : VC ι F n (wpList P all Q (⟨d, op, ty, pos, aft, none⟩ :: rest)) ρ l) : VC ι F n (wpList P all Q (⟨d, op, ty, pos, aft, some (j, b)⟩ :: rest)) ρ l := fun a w he hw => by
 have h1 := h a w he hw
 have hy : yielded all a.tmps j = some b := by
  unfold yielded
  rw [hj]
  simp [he.val t _ hb]
 unfold wpList at h1 ⊢
 simp only [Region.wanted, hy, beq_self_eq_true, if_true] at h1 ⊢
 exact h1
theorem vc_guardF {d : Nat} {op : Op} {ty : TypeId} {pos : String} {aft : Array Edge} {j : Nat} {b b' : Bool} (t : Nat) (hj : (all[j]?).bind (·.dst) = some t) (hb : lk ρ t = some (.bool b')) (hne : (b' == b) = false) (hd : Nat.blt d n = true)
  (h : VC ι F n (wpList P all Q rest) ((d, undef) :: ρ) l) : VC ι F n (wpList P all Q (⟨some d, op, ty, pos, aft, some (j, b)⟩ :: rest)) ρ l := fun a w he hw => by
 have hy : yielded all a.tmps j = some b' := by
  unfold yielded
  rw [hj]
  simp [he.val t _ hb]
 unfold wpList
 have : (some b' == some b) = false := by simpa using hne
 simp only [Region.wanted, hy, this, Bool.false_eq_true, if_false]
 exact h _ _ (he.put d hd _) hw
theorem vc_guardU {d : Nat} {op : Op} {ty : TypeId} {pos : String} {aft : Array Edge} {j : Nat} {b : Bool} (t : Nat) (hj : (all[j]?).bind (·.dst) = some t) (hb : lk ρ t = some undef) (hd : Nat.blt d n = true)
  (h : VC ι F n (wpList P all Q rest) ((d, undef) :: ρ) l) : VC ι F n (wpList P all Q (⟨some d, op, ty, pos, aft, some (j, b)⟩ :: rest)) ρ l := fun a w he hw => by
 have hy : yielded all a.tmps j = none := by
  unfold yielded
  rw [hj]
  simp [he.val t _ hb, undef]
 unfold wpList
 simp only [Region.wanted, hy]
 exact h _ _ (he.put d hd _) hw
/-- A truth value that is not known yet: both. -/
theorem vc_split (t : Nat) {b : Bool} (hb : lk ρ t = some (.bool b)) (ht : b = true → VC ι F n K ((t, .bool true) :: ρ) l) (hf : b = false → VC ι F n K ((t, .bool false) :: ρ) l) : VC ι F n K ρ l := fun a w he hw => by
 have aux : ∀ c : Bool, b = c → Env n ((t, .bool c) :: ρ) a := fun c e => ⟨he.defers, he.size, fun t' v' hv => by
  simp only [lk] at hv
  cases hb' : Nat.beq t t' with
  | true => rw [hb'] at hv; have := Nat.eq_of_beq_eq_true hb'; subst this; simp at hv; subst hv; rw [← e]; exact he.val _ _ hb
  | false => rw [hb'] at hv; exact he.val _ _ hv⟩
 cases b with
 | true => exact ht rfl a w (aux true rfl) hw
 | false => exact hf rfl a w (aux false rfl) hw
end
end Go.Eng
