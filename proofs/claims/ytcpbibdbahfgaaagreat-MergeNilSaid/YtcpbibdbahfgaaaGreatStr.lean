/-
 Plain facts on the order of strings and on lists that rise: where a key stands, or would.
-/
import Derived.Test.YtcpbibdbahfgaaaGreatEng6
set_option linter.unusedVariables false
set_option autoImplicit false
namespace Go.Eng
theorem bl_irrefl : ∀ (a : List UInt8), Op.bytesLess a a = false
 | [] => rfl
 | x :: a => by simp [Op.bytesLess, bl_irrefl a]
theorem bl_trans : ∀ (a b c : List UInt8), Op.bytesLess a b = true → Op.bytesLess b c = true → Op.bytesLess a c = true
 | _, _, [], _, h => by simp [Op.bytesLess] at h
 | _, [], _ :: _, h, _ => by simp [Op.bytesLess] at h
 | [], _ :: _, _ :: _, _, _ => rfl
 | x :: a, y :: b, z :: c, h, h' => by
  simp only [Op.bytesLess, Bool.or_eq_true, decide_eq_true_eq, Bool.and_eq_true, beq_iff_eq] at h h' ⊢
  rcases h with h | ⟨rfl, h⟩
  ·rcases h' with h' | ⟨rfl, _⟩
   ·exact .inl (UInt8.lt_trans h h')
   ·exact .inl h
  ·rcases h' with h' | ⟨rfl, h'⟩
   ·exact .inl h'
   ·exact .inr ⟨rfl, bl_trans a b c h h'⟩
theorem bl_total : ∀ (a b : List UInt8), Op.bytesLess a b = true ∨ a = b ∨ Op.bytesLess b a = true
 | [], [] => .inr (.inl rfl)
 | [], _ :: _ => .inl rfl
 | _ :: _, [] => .inr (.inr rfl)
 | x :: a, y :: b => by
  simp only [Op.bytesLess, Bool.or_eq_true, decide_eq_true_eq, Bool.and_eq_true, beq_iff_eq]
  rcases Nat.lt_trichotomy x.toNat y.toNat with h | h | h
  ·exact .inl (.inl (UInt8.lt_iff_toNat_lt.2 h))
  ·have : x = y := UInt8.toNat_inj.1 h
   subst this
   rcases bl_total a b with h | h | h
   ·exact .inl (.inr ⟨rfl, h⟩)
   ·exact .inr (.inl (by rw [h]))
   ·exact .inr (.inr (.inr ⟨rfl, h⟩))
  ·exact .inr (.inr (.inl (UInt8.lt_iff_toNat_lt.2 h)))
theorem ba_toList (a : ByteArray) : a.toList = a.data.toList := by
 have : ∀ (bs : ByteArray) (i : Nat) (r : List UInt8), ByteArray.toList.loop bs i r = r.reverse ++ bs.data.toList.drop i := by
  intro bs i r
  fun_induction ByteArray.toList.loop bs i r with
  | case1 i r h ih =>
   rw [ih]
   have h' : i < bs.data.toList.length := h
   rw [List.drop_eq_getElem_cons h']
   have hd : i < bs.data.size := by simpa using h'
   have : bs.get! i = bs.data.toList[i] := by simp only [ByteArray.get!]; rw [getElem!_pos bs.data i hd]; rfl
   simp [this]
  | case2 i r h =>
   have h' : bs.data.toList.length ≤ i := Nat.le_of_not_lt h
   simp [List.drop_eq_nil_of_le h']
 simpa [ByteArray.toList] using this a 0 []
theorem ba_ext {a b : ByteArray} (h : a.toList = b.toList) : a = b := by
 rw [ba_toList, ba_toList] at h
 cases a; cases b
 simp at h
 subst h; rfl
theorem sEq_iff {a b : ByteArray} : sEq a b = true ↔ a = b := by
 unfold sEq
 simp only [beq_iff_eq]
 exact ⟨ba_ext, fun h => by rw [h]⟩
theorem sEq_self (a : ByteArray) : sEq a a = true := sEq_iff.2 rfl
theorem sEq_false {a b : ByteArray} : sEq a b = false ↔ a ≠ b := by
 rw [← Bool.not_eq_true, sEq_iff]
theorem sLt_irrefl (a : ByteArray) : sLt a a = false := bl_irrefl _
theorem sLt_trans {a b c : ByteArray} (h : sLt a b = true) (h' : sLt b c = true) : sLt a c = true := bl_trans _ _ _ h h'
theorem sLt_total (a b : ByteArray) : sLt a b = true ∨ a = b ∨ sLt b a = true := by
 rcases bl_total a.toList b.toList with h | h | h
 ·exact .inl h
 ·exact .inr (.inl (ba_ext h))
 ·exact .inr (.inr h)
theorem sLt_asymm {a b : ByteArray} (h : sLt a b = true) : sLt b a = false := by
 cases h' : sLt b a with
 | false => rfl
 | true => rw [← sLt_irrefl a, sLt_trans h h']
theorem sLt_ne {a b : ByteArray} (h : sLt a b = true) : a ≠ b := fun e => by subst e; rw [sLt_irrefl] at h; cases h
theorem not_sLt {a b : ByteArray} (h : sLt a b = false) : a = b ∨ sLt b a = true := by
 rcases sLt_total a b with h' | h' | h'
 ·rw [h'] at h; cases h
 ·exact .inl h'
 ·exact .inr h'
/-- Rising, each once. -/
def Rise : List ByteArray → Prop
 | [] => True
 | a :: l => (∀ b ∈ l, sLt a b = true) ∧ Rise l
/-- How many stand ahead of a key. -/
def lb : List ByteArray → ByteArray → Nat
 | [], _ => 0
 | a :: l, k => if sLt a k then lb l k + 1 else 0
def fnd (l : List ByteArray) (k : ByteArray) : Bool := match l[lb l k]? with
 | some x => sEq x k
 | none => false
theorem lb_le (l : List ByteArray) (k : ByteArray) : lb l k ≤ l.length := by
 induction l with
 | nil => simp [lb]
 | cons a l ih => simp only [lb, List.length_cons]; split <;> omega
theorem lb_iff {l : List ByteArray} (hr : Rise l) (k : ByteArray) {i : Nat} (hi : i < l.length) : sLt l[i] k = true ↔ i < lb l k := by
 induction l generalizing i with
 | nil => simp at hi
 | cons a l ih =>
  simp only [lb]
  cases i with
  | zero => simp only [List.getElem_cons_zero]; split <;> simp_all
  | succ i =>
   simp only [List.getElem_cons_succ]
   have hi' : i < l.length := by simpa using hi
   have h1 := ih hr.2 hi'
   split
   ·rw [h1]; omega
   ·rename_i ha
    constructor
    ·intro h
     exact absurd (sLt_trans (hr.1 _ (List.getElem_mem hi')) h) ha
    ·intro h; omega
theorem shr1 (i j : Nat) : ((i : Int) + (j : Int)).fdiv (2 ^ (min (1 : Int).toNat IntKind.u64.bits)) = (((i + j) / 2 : Nat) : Int) := by
 have : (min (1 : Int).toNat IntKind.u64.bits) = 1 := by decide
 rw [this, Int.fdiv_eq_ediv_of_nonneg _ (by decide)]
 omega
end Go.Eng
