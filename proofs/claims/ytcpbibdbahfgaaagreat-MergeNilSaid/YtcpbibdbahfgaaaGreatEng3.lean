/-
 The engine's rules for operations that leave memory as it is.
-/
import Derived.Test.YtcpbibdbahfgaaaGreatEng2
import Derived.Laws.StructEq
import Derived.Laws.Pointers
import Derived.Laws.Small
import Derived.Lib.SliceRun
set_option linter.unusedVariables false
set_option linter.unusedSimpArgs false
set_option autoImplicit false
namespace Go.Eng

def intOp : BinOp → IntKind → Int → Int → Option Value
 | .add, k, a, b => some (.int k (k.wrap (a + b)))
 | .sub, k, a, b => some (.int k (k.wrap (a - b)))
 | .mul, k, a, b => some (.int k (k.wrap (a * b)))
 | .eql, _, a, b => some (.bool (decide (a = b)))
 | .neq, _, a, b => some (.bool (!decide (a = b)))
 | .lss, _, a, b => some (.bool (decide (a < b)))
 | .leq, _, a, b => some (.bool (decide (a ≤ b)))
 | .gtr, _, a, b => some (.bool (decide (b < a)))
 | .geq, _, a, b => some (.bool (decide (b ≤ a)))
 | _, _, _, _ => none
def sLt (a b : ByteArray) : Bool := Op.bytesLess a.toList b.toList
def sEq (a b : ByteArray) : Bool := a.toList == b.toList
def strOp : BinOp → ByteArray → ByteArray → Option Value
 | .eql, a, b => some (.bool (sEq a b))
 | .neq, a, b => some (.bool (!sEq a b))
 | .lss, a, b => some (.bool (sLt a b))
 | .leq, a, b => some (.bool (sLt a b || sEq a b))
 | .gtr, a, b => some (.bool (!(sLt a b || sEq a b)))
 | .geq, a, b => some (.bool (!sLt a b))
 | _, _, _ => none
def binV (op : BinOp) : Value → Value → Option Value
 | .int k a, .int k' b => if k = k' then intOp op k a b else none
 | .string a, .string b => strOp op a b
 | _, _ => none
def pureOp (ρ : List (Nat × Value)) : Op → Option Value
 | .move x => ev ρ x
 | .assign x => ev ρ x
 | .pick c a b => match ev ρ c with
  | some (.bool true) => ev ρ a
  | some (.bool false) => ev ρ b
  | _ => none
 | .nilCheck x => match ev ρ x with
  | some (.pointer (some a)) => some (.pointer (some a))
  | some (.func (.func f) a b) => some (.func (.func f) a b)
  | _ => none
 | .unOp .not _ x => match ev ρ x with
  | some (.bool b) => some (.bool !b)
  | _ => none
 | .extract x i => match ev ρ x with
  | some (.tuple vs) => nth vs.toList i
  | _ => none
 | .binOp op _ x y _ => match ev ρ x with
  | some a => match ev ρ y with
   | some b => binV op a b
   | none => none
  | none => none
 | _ => none
theorem nth_eq {α : Type} (l : List α) (i : Nat) : nth l i = l[i]? := by
 induction l generalizing i with
 | nil => simp [nth]
 | cons a l ih => cases i <;> simp [nth, ih]

section
variable {P : Program} {ι : Io} {F : HP} {n : Nat} {ρ : List (Nat × Value)} {l : List HP} {K : Act → World → Prop} {Q : Exit → Act → World → Prop} {all : Array Oper} {rest : List Oper}
variable {d : Nat} {ty : TypeId} {pos : String} {aft : Array Edge} {dst : Option Nat} {gd : Option (Nat × Bool)}

theorem intOp_run {op : BinOp} {k : IntKind} {a b : Int} {v : Value} (h : intOp op k a b = some v) (t : TypeId) (x y : Operand) (w : World) :
  (do eqGuard op t x y (.int k a) (.int k b); binOp op t (.int k a) (.int k b)).run P w = .ok v w := by
 cases op <;> simp [intOp] at h <;> subst h <;> simp [eqGuard, binOp, Op.intArith, Op.intCmp, bne] <;> rfl
theorem strOp_run {op : BinOp} {a b : ByteArray} {v : Value} (h : strOp op a b = some v) (t : TypeId) (x y : Operand) (w : World) :
  (do eqGuard op t x y (.string a) (.string b); binOp op t (.string a) (.string b)).run P w = .ok v w := by
 cases op <;> simp [strOp] at h <;> subst h <;> simp [eqGuard, binOp, Op.stringOp, sLt, sEq]
theorem pureOp_run {a : Act} (he : Env n ρ a) {op : Op} {v : Value} (h : pureOp ρ op = some v) (dst : Option Nat) (g : Option (Nat × Bool)) (w : World) :
  (execOp a.eval ⟨dst, op, ty, pos, aft, g⟩).run P w = .ok (.value v) w := by
 cases op with
 | move x => simp only [pureOp] at h; simp [execOp, he.eval h]
 | assign x => simp only [pureOp] at h; simp [execOp, he.eval h]
 | pick c x y =>
  simp only [pureOp] at h
  cases hc : ev ρ c with
  | none => simp [hc] at h
  | some u =>
   rw [hc] at h
   cases u with
   | bool b => cases b <;> simp at h <;> simp [execOp, he.eval hc, he.eval h, asBool]
   | _ => simp at h
 | nilCheck x =>
  simp only [pureOp] at h
  cases hc : ev ρ x with
  | none => simp [hc] at h
  | some u =>
   rw [hc] at h
   cases u with
   | pointer p => cases p with
    | none => simp at h
    | some p => simp at h; subst h; simp [execOp, he.eval hc]
   | func f p q => cases f <;> simp at h; subst h; simp [execOp, he.eval hc]
   | _ => simp at h
 | unOp op t x =>
  cases op <;> simp only [pureOp] at h <;> try (cases h)
  cases hc : ev ρ x with
  | none => simp [hc] at h
  | some u =>
   rw [hc] at h
   cases u <;> simp at h
   subst h; simp [execOp, he.eval hc, Op.unary]
 | extract x i =>
  simp only [pureOp] at h
  cases hc : ev ρ x with
  | none => simp [hc] at h
  | some u =>
   rw [hc] at h
   cases u <;> simp at h
   rename_i vs
   rw [nth_eq] at h
   simp at h
   simp [execOp, he.eval hc, Instr.extract, h]
 | binOp op t x y t' =>
  simp only [pureOp] at h
  cases hx : ev ρ x with
  | none => simp [hx] at h
  | some u =>
   cases hy : ev ρ y with
   | none => simp [hx, hy] at h
   | some u' =>
    rw [hx, hy] at h
    simp only [execOp, he.eval hx, he.eval hy]
    cases u <;> cases u' <;> simp only [binV] at h <;> try (cases h; done)
    ·rename_i k a k' b
     split at h
     ·rename_i hk; subst hk
      have := intOp_run (P := P) h t x y w
      simp only [Sem.run_bind] at this ⊢
      rw [this]; rfl
     ·cases h
    ·rename_i a b
     have := strOp_run (P := P) h t x y w
     simp only [Sem.run_bind] at this ⊢
     rw [this]; rfl
 | _ => simp [pureOp] at h

/-- An operation that only reckons. -/
theorem y_p {op : Op} (v : Value) (hp : pureOp ρ op = some v) : Yld P ι F n ρ l ⟨dst, op, ty, pos, aft, gd⟩ v := fun a w he _ => pureOp_run he hp _ _ _
/-- The same; the value told in other words. -/
theorem y_pe {op : Op} {u : Value} (v : Value) (hp : pureOp ρ op = some u) (hv : u = v) : Yld P ι F n ρ l ⟨dst, op, ty, pos, aft, gd⟩ v := y_p v (hv ▸ hp)
/-- The step of one that only reckons. -/
theorem vp {d : Nat} {op : Op} {ty : TypeId} {pos : String} {aft : Array Edge} {v : Value} (h : VC ι F n (wpList P all Q rest) ((d, v) :: ρ) l) (hp : pureOp ρ op = some v := by exact rfl) (hd : Nat.blt d n = true := by exact rfl) :
  VC ι F n (wpList P all Q (⟨some d, op, ty, pos, aft, none⟩ :: rest)) ρ l := vc_y (y_p _ hp) hd h
theorem vc_condP {c : Operand} {x y : Code} {p : Prop} [Decidable p] (hc : ev ρ c = some (.bool (decide p))) (ht : p → VC ι F n (x.wp P Q) ρ l) (hf : ¬ p → VC ι F n (y.wp P Q) ρ l) :
  VC ι F n ((Code.cond c x y).wp P Q) ρ l := vc_cond hc (fun e => ht (of_decide_eq_true e)) (fun e => hf (of_decide_eq_false e))
theorem vc_condN {c : Operand} {x y : Code} {p : Prop} [Decidable p] (hc : ev ρ c = some (.bool (!decide p))) (ht : ¬ p → VC ι F n (x.wp P Q) ρ l) (hf : p → VC ι F n (y.wp P Q) ρ l) :
  VC ι F n ((Code.cond c x y).wp P Q) ρ l := vc_cond hc (fun e => ht (by simpa using e)) (fun e => hf (by simpa using e))
theorem vc_splitP (t : Nat) {p : Prop} [Decidable p] (hb : lk ρ t = some (.bool (decide p))) (ht : p → VC ι F n K ((t, .bool true) :: ρ) l) (hf : ¬ p → VC ι F n K ((t, .bool false) :: ρ) l) : VC ι F n K ρ l :=
 vc_split t hb (fun e => ht (of_decide_eq_true e)) (fun e => hf (of_decide_eq_false e))
theorem vc_splitN (t : Nat) {p : Prop} [Decidable p] (hb : lk ρ t = some (.bool (!decide p))) (ht : ¬ p → VC ι F n K ((t, .bool true) :: ρ) l) (hf : p → VC ι F n K ((t, .bool false) :: ρ) l) : VC ι F n K ρ l :=
 vc_split t hb (fun e => ht (by simpa using e)) (fun e => hf (by simpa using e))
theorem wrap64 {x : Int} (h1 : -9223372036854775808 ≤ x) (h2 : x ≤ 9223372036854775807) : IntKind.i64.wrap x = x := by
 simp only [IntKind.wrap, IntKind.bits, IntKind.signed]
 simp
 omega
theorem wrapNadd {a : Nat} (h : a + 1 ≤ 9223372036854775807) : IntKind.i64.wrap ((a : Int) + 1) = ((a + 1 : Nat) : Int) := by
 rw [wrap64 (by omega) (by omega)]; omega
theorem wrapNsub {a : Nat} (h : 1 ≤ a ∧ a ≤ 9223372036854775807) : IntKind.i64.wrap ((a : Int) - 1) = ((a - 1 : Nat) : Int) := by
 rw [wrap64 (by omega) (by omega)]; omega
theorem wrapU64 {x : Int} (h1 : 0 ≤ x) (h2 : x ≤ 18446744073709551615) : IntKind.u64.wrap x = x := by
 simp only [IntKind.wrap, IntKind.bits, IntKind.signed]
 simp
 omega
theorem wrapU8 {x : Int} (h1 : 0 ≤ x) (h2 : x ≤ 255) : IntKind.u8.wrap x = x := by
 simp only [IntKind.wrap, IntKind.bits, IntKind.signed]
 simp
 omega
/-- A sum, a difference, a product of ints. -/
theorem y_arith {op : BinOp} {k : IntKind} {x y : Operand} {t t' : TypeId} {z : Int} (c : Int) (hp : pureOp ρ (.binOp op t x y t') = some (.int k z)) (hz : z = c) : Yld P ι F n ρ l ⟨dst, .binOp op t x y t', ty, pos, aft, gd⟩ (.int k c) :=
 y_pe (.int k c) hp (by rw [hz])
/-- A division by what isn't nought, a rest, a shift. -/
theorem y_quo {k : IntKind} {x y : Operand} {t t' : TypeId} {a b : Int} (c : Int) (hx : ev ρ x = some (.int k a)) (hy : ev ρ y = some (.int k b)) (hb : b ≠ 0) (hz : k.wrap (a.tdiv b) = c) : Yld P ι F n ρ l ⟨dst, .binOp .quo t x y t', ty, pos, aft, gd⟩ (.int k c) := fun a' w he _ => by simp [execOp, he.eval hx, he.eval hy, eqGuard, binOp, Op.intDiv, hb, hz]
theorem y_rem {k : IntKind} {x y : Operand} {t t' : TypeId} {a b : Int} (c : Int) (hx : ev ρ x = some (.int k a)) (hy : ev ρ y = some (.int k b)) (hb : b ≠ 0) (hz : a.tmod b = c) : Yld P ι F n ρ l ⟨dst, .binOp .rem t x y t', ty, pos, aft, gd⟩ (.int k c) := fun a' w he _ => by simp [execOp, he.eval hx, he.eval hy, eqGuard, binOp, Op.intDiv, hb, hz]
theorem y_shr {k k' : IntKind} {x y : Operand} {t t' : TypeId} {a b : Int} (c : Int) (hx : ev ρ x = some (.int k a)) (hy : ev ρ y = some (.int k' b)) (hb : 0 ≤ b) (hz : a.fdiv (2 ^ (min b.toNat k.bits)) = c) : Yld P ι F n ρ l ⟨dst, .binOp .shr t x y t', ty, pos, aft, gd⟩ (.int k c) := fun a' w he _ => by
   have : ¬ b < 0 := by omega
   simp [execOp, he.eval hx, he.eval hy, eqGuard, binOp, Op.shift, this, hz]
theorem y_shl {k k' : IntKind} {x y : Operand} {t t' : TypeId} {a b : Int} (c : Int) (hx : ev ρ x = some (.int k a)) (hy : ev ρ y = some (.int k' b)) (hb : 0 ≤ b) (hz : k.wrap (a * 2 ^ (min b.toNat k.bits)) = c) : Yld P ι F n ρ l ⟨dst, .binOp .shl t x y t', ty, pos, aft, gd⟩ (.int k c) := fun a' w he _ => by
   have : ¬ b < 0 := by omega
   simp [execOp, he.eval hx, he.eval hy, eqGuard, binOp, Op.shift, this, hz]
/-- 'and' of two numbers that aren't below nought. -/
theorem y_and {k : IntKind} {x y : Operand} {t t' : TypeId} {a b : Int} (c : Int) (hx : ev ρ x = some (.int k a)) (hy : ev ρ y = some (.int k b)) (hz : k.wrap ((BitVec.ofInt k.bits a &&& BitVec.ofInt k.bits b).toNat) = c) : Yld P ι F n ρ l ⟨dst, .binOp .and t x y t', ty, pos, aft, gd⟩ (.int k c) := fun a' w he _ => by subst hz; simp only [execOp, he.eval hx, he.eval hy, eqGuard, binOp, Op.intBits, ne_eq, not_true_eq_false, if_false]; rfl
/-- 'x + y' of strings. -/
theorem y_cat {x y : Operand} {t t' : TypeId} {a b : ByteArray} (hx : ev ρ x = some (.string a)) (hy : ev ρ y = some (.string b)) (hb : a.size + b.size ≤ 9223372036854775807) : Yld P ι F n ρ l ⟨dst, .binOp .add t x y t', ty, pos, aft, gd⟩ (.string (a ++ b)) := fun a' w he _ => by
   have : ¬ ((a.size + b.size : Nat) : Int) > IntKind.i64.max := by simp [IntKind.max, IntKind.signed, IntKind.bits]; omega
   simp only [execOp, he.eval hx, he.eval hy, eqGuard, binOp, Op.stringOp, this]
   simp
/-- A comparison whose answer is known. -/
theorem y_bin {op : BinOp} {x y : Operand} {t t' : TypeId} {u v : Value} (r : Value) (hx : ev ρ x = some u) (hy : ev ρ y = some v) (hg : ∀ w, (eqGuard op t x y u v).run P w = .ok () w) (hr : ∀ w, (binOp op t u v).run P w = .ok r w) : Yld P ι F n ρ l ⟨dst, .binOp op t x y t', ty, pos, aft, gd⟩ (r) := fun a' w he _ => by simp only [execOp, he.eval hx, he.eval hy, Sem.run_bind, hg, hr, Result.andThen_ok]; rfl
theorem eqGuard_bool (op : BinOp) (t : TypeId) (x y : Operand) (a b : Bool) (w : World) : (eqGuard op t x y (.bool a) (.bool b)).run P w = .ok () w := by
 cases op <;> rfl
theorem eqGuard_ptr (op : BinOp) (t : TypeId) (x y : Operand) (a b : Option Addr) (w : World) : (eqGuard op t x y (.pointer a) (.pointer b)).run P w = .ok () w := by
 cases op <;> rfl
theorem eqGuard_slice (op : BinOp) (t : TypeId) (x y : Operand) (a b : Option Addr) (m n m' n' : Nat) (w : World) : (eqGuard op t x y (.slice a m n) (.slice b m' n')).run P w = .ok () w := by
 cases op <;> rfl
/-- Equality of truth values; of a pointer and nil; of a slice and nil; of structs. -/
theorem y_eqB {x y : Operand} {t t' : TypeId} {a b : Bool} (ht : P.underlying t = some .bool) (hx : ev ρ x = some (.bool a)) (hy : ev ρ y = some (.bool b)) : Yld P ι F n ρ l ⟨dst, .binOp .eql t x y t', ty, pos, aft, gd⟩ (.bool (a == b)) :=
 y_bin _ hx hy (eqGuard_bool _ _ _ _ _ _) (fun w => run_eql_bool w t a b ht)
theorem y_neB {x y : Operand} {t t' : TypeId} {a b : Bool} (ht : P.underlying t = some .bool) (hx : ev ρ x = some (.bool a)) (hy : ev ρ y = some (.bool b)) : Yld P ι F n ρ l ⟨dst, .binOp .neq t x y t', ty, pos, aft, gd⟩ (.bool (!(a == b))) :=
 y_bin _ hx hy (eqGuard_bool _ _ _ _ _ _) (fun w => run_neq_bool w t a b ht)
theorem y_eqNil {x y : Operand} {t t' : TypeId} {p : Option Addr} (ht : P.underlying t = some (.pointer (P.pointee t))) (hx : ev ρ x = some (.pointer p)) (hy : ev ρ y = some (.pointer none)) : Yld P ι F n ρ l ⟨dst, .binOp .eql t x y t', ty, pos, aft, gd⟩ (.bool p.isNone) :=
 y_bin _ hx hy (eqGuard_ptr _ _ _ _ _ _) (fun w => run_eql_pointer_nil w t p ht)
theorem y_neNil {x y : Operand} {t t' : TypeId} {p : Option Addr} (ht : P.underlying t = some (.pointer (P.pointee t))) (hx : ev ρ x = some (.pointer p)) (hy : ev ρ y = some (.pointer none)) : Yld P ι F n ρ l ⟨dst, .binOp .neq t x y t', ty, pos, aft, gd⟩ (.bool (!p.isNone)) :=
 y_bin _ hx hy (eqGuard_ptr _ _ _ _ _ _) (fun w => run_neq_pointer_nil w t p ht)
theorem y_sliceNil {x y : Operand} {t t' e : TypeId} {p : Option Addr} {m c : Nat} (ht : P.underlying t = some (.slice e)) (hx : ev ρ x = some (.slice p m c)) (hy : ev ρ y = some (.slice none 0 0)) : Yld P ι F n ρ l ⟨dst, .binOp .eql t x y t', ty, pos, aft, gd⟩ (.bool p.isNone) :=
 y_bin _ hx hy (eqGuard_slice _ _ _ _ _ _ _ _ _ _) (fun w => Lib.run_eql_slice_nil w t e p m c 0 0 ht)
theorem y_eqS {x y : Operand} {t t' : TypeId} {xs ys : Array Value} {r : Bool} (hm : P.eqGuardType P.depth t = false) (he : ∀ w, (Op.equalIn 10000 t (.agg xs) (.agg ys)).run P w = .ok r w) (hx : ev ρ x = some (.agg xs)) (hy : ev ρ y = some (.agg ys)) : Yld P ι F n ρ l ⟨dst, .binOp .eql t x y t', ty, pos, aft, gd⟩ (.bool r) :=
 y_bin _ hx hy (fun w => run_eqGuard_agg w .eql t x y xs ys hm) (fun w => by rw [run_eql_struct, he]; rfl)
theorem y_neS {x y : Operand} {t t' : TypeId} {xs ys : Array Value} {r : Bool} (hm : P.eqGuardType P.depth t = false) (he : ∀ w, (Op.equalIn 10000 t (.agg xs) (.agg ys)).run P w = .ok r w) (hx : ev ρ x = some (.agg xs)) (hy : ev ρ y = some (.agg ys)) : Yld P ι F n ρ l ⟨dst, .binOp .neq t x y t', ty, pos, aft, gd⟩ (.bool (!r)) :=
 y_bin _ hx hy (fun w => run_eqGuard_agg w .neq t x y xs ys hm) (fun w => by rw [run_neq_struct, he]; rfl)
/-- A conversion between kinds of whole numbers. -/
theorem y_conv {x : Operand} {s t : TypeId} {k k' : IntKind} {a : Int} {ds : TypeDesc} (c : Int) (hs : P.underlying s = some ds) (ht : P.underlying t = some (.int k)) (hx : ev ρ x = some (.int k' a)) (hz : k.wrap a = c) : Yld P ι F n ρ l ⟨dst, .convert s t x, ty, pos, aft, gd⟩ (.int k c) :=
 fun a' w he _ => by simp [execOp, he.eval hx, convert, run_underlying hs, run_underlying ht, Conv.intToInt, hz]
/-- A byte of a string. -/
theorem y_strIndex {x y : Operand} {t : TypeId} {s : ByteArray} {k : IntKind} {i : Int} (j : Nat) (hj : i = (j : Int)) (hlt : j < s.size) (ht : P.underlying t = some .string) (hx : ev ρ x = some (.string s)) (hy : ev ρ y = some (.int k i)) : Yld P ι F n ρ l ⟨dst, .index t x y, ty, pos, aft, gd⟩ (.int .u8 (s[j]'hlt).toNat) := fun a' w he _ => by
   subst hj
   simp [execOp, he.eval hx, he.eval hy, Instr.index, asIntOf, run_underlying ht, hlt]
/-- The length of a string. -/
theorem y_strLen {x : Operand} {t : TypeId} {s : ByteArray} (ht : P.underlying t = some .string) (hx : ev ρ x = some (.string s)) : Yld P ι F n ρ l ⟨dst, .call { callee := .builtin .len, args := #[x], argTypes := #[t] }, ty, pos, aft, gd⟩ (.int .i64 (s.size : Int)) := fun a' w he _ => by simp [execOp, resolve, invoke, builtin, Builtin.len_, he.eval hx, run_underlying ht, goInt]
/-- min and max of two ints. -/
theorem y_max2 {x y : Operand} {ts : Array TypeId} {k : IntKind} {a b : Int} (c : Int) (hx : ev ρ x = some (.int k a)) (hy : ev ρ y = some (.int k b)) (hz : (if b > a then b else a) = c) : Yld P ι F n ρ l ⟨dst, .call { callee := .builtin .max, args := #[x, y], argTypes := ts }, ty, pos, aft, gd⟩ (.int k c) := fun a' w he _ => by subst hz; simp [execOp, resolve, invoke, builtin, Builtin.max_, Builtin.max2, he.eval hx, he.eval hy]
theorem y_min2 {x y : Operand} {ts : Array TypeId} {k : IntKind} {a b : Int} (c : Int) (hx : ev ρ x = some (.int k a)) (hy : ev ρ y = some (.int k b)) (hz : (if b < a then b else a) = c) : Yld P ι F n ρ l ⟨dst, .call { callee := .builtin .min, args := #[x, y], argTypes := ts }, ty, pos, aft, gd⟩ (.int k c) := fun a' w he _ => by subst hz; simp [execOp, resolve, invoke, builtin, Builtin.min_, Builtin.min2, he.eval hx, he.eval hy]
/-- A function value. -/
theorem y_makeFunc {f : FuncId} {xs ys : Array Operand} (us vs : List Value) (hx : xs.toList.map (ev ρ) = us.map some) (hy : ys.toList.map (ev ρ) = vs.map some) : Yld P ι F n ρ l ⟨dst, .makeFunc (.func f) xs ys, ty, pos, aft, gd⟩ (.func (.func f) us.toArray vs.toArray) := fun a' w he _ => by
   have aux : ∀ (xs : List Operand) (us : List Value), xs.map (ev ρ) = us.map some → xs.map a'.eval = us := by
    intro xs
    induction xs with
    | nil => intro us h; cases us <;> simp_all
    | cons x xs ih => intro us h; cases us with
     | nil => simp at h
     | cons u us => simp at h; simp [he.eval h.1, ih us h.2]
   have e1 : xs.map a'.eval = us.toArray := by apply Array.ext'; simp [aux _ _ hx]
   have e2 : ys.map a'.eval = vs.toArray := by apply Array.ext'; simp [aux _ _ hy]
   simp [execOp, Instr.makeFunc, e1, e2]
end
end Go.Eng
