/-
 The engine's rules for floats by their bits, for calls out of the program that only compute, and for structs that are compared.
-/
import Derived.Test.YtcpbibdbahfgaaaGreatEng8
import Derived.KernelRfl
set_option linter.unusedVariables false
set_option linter.unusedSimpArgs false
set_option autoImplicit false
namespace Go.Eng
/-- The bits of what is not a number. -/
def nanB (b : Nat) : Bool := decide (9218868437227405312 < b % 9223372036854775808)
theorem cmp_self (z : Int) : (compare z z == Ordering.eq) = true := by
 have : compare z z = Ordering.eq := by rw [Int.compare_eq_eq]
 rw [this]; rfl
theorem order_self (b : Nat) : (Ieee.double.order b b == some Ordering.eq) = !nanB b := by
 have e1 : Ieee.double.signWeight = 9223372036854775808 := by decide
 have e2 : Ieee.double.infRung = 9218868437227405312 := by decide
 have e3 : Ieee.double.binade = 4503599627370496 := by decide
 unfold Ieee.Format.order Ieee.Format.read nanB
 simp only [e1, e2, e3]
 generalize b % 9223372036854775808 = r
 generalize (b / 9223372036854775808 % 2 == 1) = s
 by_cases h1 : r < 4503599627370496
 ·have h : ¬ 9218868437227405312 < r := by omega
  simp only [h1, if_true, h, decide_false, Bool.not_false, Ieee.Datum.order]
  show (some (compare _ _) == some Ordering.eq) = true
  exact cmp_self _
 ·by_cases h2 : r < 9218868437227405312
  ·have h : ¬ 9218868437227405312 < r := by omega
   simp only [h1, h2, if_true, if_false, h, decide_false, Bool.not_false, Ieee.Datum.order]
   show (some (compare _ _) == some Ordering.eq) = true
   exact cmp_self _
  ·by_cases h3 : r = 9218868437227405312
   ·subst h3
    simp only [h1, h2, if_true, if_false, Ieee.Datum.order]
    cases s <;> rfl
   ·have h : 9218868437227405312 < r := by omega
    simp only [h1, h2, h3, if_false, h, decide_true, Bool.not_true, Ieee.Datum.order]
    rfl
def canonB (b : Nat) : Nat := if nanB b then 9221120237041090561 else b
theorem canon_canon (b : Nat) : canonB (canonB b) = canonB b := by
 unfold canonB
 cases h : nanB b
 ·simp [h]
 ·simp
section
variable {P : Program} {ι : Io} {F : HP} {n : Nat} {ρ : List (Nat × Value)} {l : List HP} {K : Act → World → Prop} {Q : Exit → Act → World → Prop} {all : Array Oper} {rest : List Oper}
variable {d : Nat} {ty : TypeId} {pos : String} {aft : Array Edge} {dst : Option Nat} {gd : Option (Nat × Bool)}
theorem y_neSelf {x y : Operand} {t t' : TypeId} {b : Nat} (hx : ev ρ x = some (.float .f64 b)) (hy : ev ρ y = some (.float .f64 b)) : Yld P ι F n ρ l ⟨dst, .binOp .neq t x y t', ty, pos, aft, gd⟩ (.bool (nanB b)) :=
 y_bin _ hx hy (fun w => by simp [eqGuard]) (fun w => by
  have h : (Ieee.double.order b b != some Ordering.eq) = nanB b := by
   show (!(Ieee.double.order b b == some Ordering.eq)) = _
   rw [order_self, Bool.not_not]
  show (Op.floatCmp .neq .f64 b b).run P w = _
  unfold Op.floatCmp
  have h2 : (FloatKind.f64.format.order b b != some Ordering.eq) = nanB b := h
  simp [h2])
/-- A call out of the program that only computes. -/
theorem y_ext {f : FuncId} {fn : Func} (hf : P.funcs[f]? = some fn) (hb : fn.body = none) (hnm : (fn.name == "runtime.NumGoroutine") = false) (hnx : Extern.findNext fn = none) {g : Array Value → Sem Value} (hg : Extern.find fn = some g)
  {xs : Array Operand} {ats : Array TypeId} {c : Operand} (hc : ev ρ c = some (.func (.func f) #[] #[])) (args : List Value) (hargs : xs.toList.map (ev ρ) = args.map some) (v : Value) (hr : ∀ w, (g args.toArray).run P w = .ok v w) :
  Yld P ι F n ρ l ⟨dst, .call { callee := .value c, args := xs, argTypes := ats }, ty, pos, aft, gd⟩ v := fun a w he hw => by
 have hnm' : ¬ (fn.name = "runtime.NumGoroutine") := by simpa using hnm
 have aux : ∀ (xs : List Operand) (us : List Value), xs.map (ev ρ) = us.map some → xs.map a.eval = us := by
  intro xs
  induction xs with
  | nil => intro us h; cases us <;> simp_all
  | cons x xs ih => intro us h; cases us with
   | nil => simp at h
   | cons u us => simp at h; simp [he.eval h.1, ih us h.2]
 have e : xs.map a.eval = args.toArray := by apply Array.ext'; simp [aux _ _ hargs]
 have hcall : (callFunc f args.toArray).run P w = .ok (.value v) w := by
  have := hr w
  simp [callFunc, program, Sem.run, hf, hb, hnm', mark, hnx, hg] at this ⊢
  simp [this]
 simp only [execOp, resolve, he.eval hc, Deferred.ofValue, invoke, Sem.run_bind, Sem.run_pure, Result.andThen_ok, e]
 simpa using hcall
end
section
variable {P : Program}
theorem run_part1 {t : TypeId} (h : TyOne P t) {cs : Array Value} {o : Nat} {v : Value} (hv : cs[o]? = some v) (w : World) : (part t cs o).run P w = .ok v w := by
 simp [part, run_isAgg1 h, hv]
theorem run_partA {t : TypeId} {s : Nat} (h : TyAgg P t s) (cs : Array Value) (o : Nat) (w : World) : (part t cs o).run P w = .ok (.agg (cs.extract o (o + s))) w := by
 simp [part, run_isAggA h, run_sizeOf h.size]
theorem eqF_cons {f : Field} {fs : List Field} {d : Nat} {xs ys : Array Value} {a b : Value} {r q : Bool} {w : World} (hn : (f.name != "_") = true) (h1 : (part f.type xs f.offset).run P w = .ok a w) (h2 : (part f.type ys f.offset).run P w = .ok b w)
  (h3 : (Op.equalIn d f.type a b).run P w = .ok r w) (h4 : (Op.eqFields d xs ys fs).run P w = .ok q w) : (Op.eqFields d xs ys (f :: fs)).run P w = .ok (r && q) w := by
 have hn' : f.name ≠ "_" := by simpa using hn
 simp only [Op.eqFields, if_pos hn', Sem.run_bind, h1, h2, h3, Result.andThen_ok, Sem.run_ite]
 cases r
 ·simp
 ·simpa using h4
theorem eqF_nil {d : Nat} {xs ys : Array Value} {w : World} : (Op.eqFields d xs ys []).run P w = .ok true w := by simp [Op.eqFields]
end
/-! ### Results that lie in cells -/
def resOne (r : ResultVar) (tmps : Array Value) : Sem Value := match r with
 | .tmp t => pure (tmps.getD t undef)
 | .cell a t => do loadVar t (← asAddr (tmps.getD a undef))
theorem results_eq (fn : Func) (tmps : Array Value) : results fn tmps = (do let vs ← fn.results.mapM (fun r => resOne r tmps); pure (if h : vs.size = 1 then vs[0] else .tuple vs)) := by
 unfold results
 congr 1
section
variable {P : Program} {ι : Io} {F : HP} {n : Nat} {ρ : List (Nat × Value)} {l : List HP}
def Res (P : Program) (ι : Io) (F : HP) (n : Nat) (ρ : List (Nat × Value)) (l : List HP) (r : ResultVar) (v : Value) : Prop :=
 ∀ a w, Env n ρ a → Holds ι w (sep (seps l) F) → (resOne r a.tmps).run P w = .ok v w
theorem res_t {t : Nat} {v : Value} (hv : lk ρ t = some v) : Res P ι F n ρ l (.tmp t) v := fun a w he _ => by simp [resOne, he.val _ _ hv]
theorem res_1 (i : Nat) {A : HP} (hA : nth l i = some A) {t b : Nat} {ad : Addr} {c : Value} (ht : TyOne P t) (hb : lk ρ b = some (.pointer (some ad))) (hc : Vis A (fun w => w.cell? ad = some c)) : Res P ι F n ρ l (.cell b t) c := fun a w he hw => by
 simp [resOne, he.val _ _ hb, asAddr, run_loadVar1 ht (hc ι w (VC.chunk hw hA))]
theorem res_a (i : Nat) {A : HP} (hA : nth l i = some A) {t b : Nat} {ad : Addr} {cs : List Value} (ht : TyAgg P t cs.length) (hb : lk ρ b = some (.pointer (some ad))) (hc : Vis A (fun w => ∀ j c, cs[j]? = some c → w.cell? (ad.add j) = some c)) : Res P ι F n ρ l (.cell b t) (.agg cs.toArray) := fun a w he hw => by
 simp [resOne, he.val _ _ hb, asAddr, run_loadVarA ht (hc ι w (VC.chunk hw hA))]
def ResL (P : Program) (ι : Io) (F : HP) (n : Nat) (ρ : List (Nat × Value)) (l : List HP) : List ResultVar → List Value → Prop
 | [], [] => True
 | r :: rs, v :: vs => Res P ι F n ρ l r v ∧ ResL P ι F n ρ l rs vs
 | _, _ => False
theorem resL_nil : ResL P ι F n ρ l [] [] := trivial
theorem resL_cons {r : ResultVar} {rs : List ResultVar} {v : Value} {vs : List Value} (h : Res P ι F n ρ l r v) (hs : ResL P ι F n ρ l rs vs) : ResL P ι F n ρ l (r :: rs) (v :: vs) := ⟨h, hs⟩
theorem resL_run {rs : List ResultVar} {vs : List Value} (h : ResL P ι F n ρ l rs vs) {a : Act} {w : World} (he : Env n ρ a) (hw : Holds ι w (sep (seps l) F)) : (rs.mapM fun r => resOne r a.tmps).run P w = .ok vs w := by
 induction rs generalizing vs with
 | nil => cases vs with
  | nil => simp
  | cons v vs => exact h.elim
 | cons r rs ih => cases vs with
  | nil => exact h.elim
  | cons v vs => simp only [List.mapM_cons, Sem.run_bind, h.1 a w he hw, Result.andThen_ok, ih h.2, Sem.run_pure]
def tupV : List Value → Value
 | [v] => v
 | vs => .tuple vs.toArray
theorem vc_endR {fn : Func} {rs : List ResultVar} (hrs : fn.results = rs.toArray) {vs : List Value} (hv : ResL P ι F n ρ l rs vs) {Post : Value → List HP → Prop} (l' : List HP) (hl : Ent (seps l) (seps l')) (h : Post (tupV vs) l') :
  VC ι F n (bodyPost P fn (fun e w' => ∃ v l', Post v l' ∧ e = .returned v ∧ Holds ι w' (sep (seps l') F)) .ret) ρ l := fun a w he hw =>
 ⟨he.defers, tupV vs, by
  rw [results_eq, hrs, Array.mapM_eq_mapM_toList]
  simp only [map_eq_pure_bind, Sem.run_bind, resL_run hv he hw, Result.andThen_ok, Sem.run_pure]
  match vs with
  | [] => rfl
  | [v] => rfl
  | v :: v' :: vs => simp [tupV], _, l', h, rfl, hw.ent (Ent.sep hl Ent.rfl)⟩
end
end Go.Eng
