/-
 Contracts whose chunks say that there is something.
-/
import Derived.Test.YtcpbibdbahfgaaaGreatEng9
set_option linter.unusedVariables false
set_option autoImplicit false
namespace Go.Eng
theorem Does.ex1 {P : Program} {f : FuncId} {args : List Value} {α : Type} {g : α → HP} {r : List HP} {Post : Value → List HP → Prop} (h : ∀ x, Does P f args (g x :: r) Post) : Does P f args (ex g :: r) Post := fun ι F w hw => by
 obtain ⟨g1, g2, r0, x0, s, x1, x2, hj, ⟨y1, y2, hj', ⟨a, ha⟩, hr⟩, hf⟩ := hw
 exact h a ι F w ⟨g1, g2, r0, x0, s, x1, x2, hj, ⟨y1, y2, hj', ha, hr⟩, hf⟩
theorem Does.lift1 {P : Program} {f : FuncId} {args : List Value} {p : Prop} {A : HP} {r : List HP} {Post : Value → List HP → Prop} (h : p → Does P f args (A :: r) Post) : Does P f args (sep (lift p) A :: r) Post := fun ι F w hw => by
 have hp : p := by
  obtain ⟨g1, g2, r0, x0, s, x1, x2, hj, ⟨y1, y2, hj', ⟨z1, z2, hj2, hp, _⟩, hr⟩, hf⟩ := hw
  exact hp
 exact h hp ι F w (hw.ent (Ent.sep (Ent.sep Ent.right Ent.rfl) Ent.rfl))
theorem Does.pre {P : Program} {f : FuncId} {args : List Value} {l l' : List HP} {Post : Value → List HP → Prop} (e : Ent (seps l) (seps l')) (h : Does P f args l' Post) : Does P f args l Post := fun ι F w hw => h ι F w (hw.ent (Ent.sep e Ent.rfl))
theorem Does.fin {P : Program} {f : FuncId} {args : List Value} {l : List HP} {Post Post' : Value → List HP → Prop} (h : Does P f args l Post) (i : ∀ v l, Post v l → ∃ l', Ent (seps l) (seps l') ∧ Post' v l') : Does P f args l Post' := fun ι F w hw =>
 (h ι F w hw).mono fun _ _ ⟨v, l', hp, e, hw'⟩ => by
  obtain ⟨l2, e2, hp2⟩ := i v l' hp
  exact ⟨v, l2, hp2, e, hw'.ent (Ent.sep e2 Ent.rfl)⟩
theorem Does.re {P : Program} {f : FuncId} {args : List Value} {l post : List HP} {v v' : Value} (h : Does P f args l (fun x l' => x = v ∧ l' = post)) (e : v = v') : Does P f args l (fun x l' => x = v' ∧ l' = post) := h.imp fun _ _ ⟨a, b⟩ => ⟨a.trans e, b⟩
theorem ent_ex {α : Type} {f : α → HP} (a : α) {r : List HP} : Ent (seps (f a :: r)) (seps (ex f :: r)) := Ent.sep (fun _ _ h => ⟨a, h⟩) Ent.rfl
theorem ent_lift {p : Prop} (hp : p) {A : HP} {r : List HP} : Ent (seps (A :: r)) (seps (sep (lift p) A :: r)) :=
 Ent.sep (fun rr x h => ⟨fun _ => none, x, fun _ => .inr ⟨rfl, rfl⟩, hp, h⟩) Ent.rfl
end Go.Eng
