/-
 Lists of keys and numbers that rise: putting in, taking away, looking up; and how these fall on a part.
-/
import Derived.Test.YtcpbibdbahfgaaaGreatStr
set_option linter.unusedVariables false
set_option autoImplicit false
namespace Go.Eng
def ks {β : Type} (m : List (ByteArray × β)) : List ByteArray := m.map (·.1)
theorem rise_append {a b : List ByteArray} : Rise (a ++ b) ↔ Rise a ∧ Rise b ∧ ∀ x ∈ a, ∀ y ∈ b, sLt x y = true := by
 induction a with
 | nil => simp [Rise]
 | cons x a ih =>
  simp only [List.cons_append, Rise, ih, List.mem_append, List.mem_cons]
  constructor
  ·rintro ⟨h1, h2, h3, h4⟩
   exact ⟨⟨fun b hb => h1 b (.inl hb), h2⟩, h3, fun y hy z hz => by
    rcases hy with rfl | hy
    ·exact h1 z (.inr hz)
    ·exact h4 y hy z hz⟩
  ·rintro ⟨⟨h1, h2⟩, h3, h4⟩
   exact ⟨fun b hb => hb.elim (h1 b) (h4 x (.inl rfl) b), h2, h3, fun y hy z hz => h4 y (.inr hy) z hz⟩
theorem lb_left {a b : List ByteArray} {k : ByteArray} (h : ∀ x ∈ b, sLt x k = false) : lb (a ++ b) k = lb a k := by
 induction a with
 | nil =>
  cases b with
  | nil => rfl
  | cons x b => simp [lb, h x (by simp)]
 | cons x a ih => simp only [List.cons_append, lb, ih]
theorem lb_right {a b : List ByteArray} {k : ByteArray} (h : ∀ x ∈ a, sLt x k = true) : lb (a ++ b) k = a.length + lb b k := by
 induction a with
 | nil => simp
 | cons x a ih =>
  simp only [List.cons_append, lb, h x (by simp), if_true, List.length_cons]
  rw [ih (fun y hy => h y (by simp [hy]))]; omega
theorem lb_zero {a : List ByteArray} {k : ByteArray} (h : ∀ x ∈ a, sLt x k = false) : lb a k = 0 := by
 have := lb_left (a := []) h
 simpa [lb] using this
theorem lb_all {a : List ByteArray} {k : ByteArray} (h : ∀ x ∈ a, sLt x k = true) : lb a k = a.length := by
 have := lb_right (b := []) h
 simpa [lb] using this
theorem fnd_iff {l : List ByteArray} (hr : Rise l) {k : ByteArray} : fnd l k = true ↔ k ∈ l := by
 induction l with
 | nil => simp [fnd, lb]
 | cons a l ih =>
  by_cases h : sLt a k = true
  ·have e : fnd (a :: l) k = fnd l k := by simp [fnd, lb, h]
   rw [e, ih hr.2, List.mem_cons]
   exact ⟨.inr, fun h' => h'.elim (fun h0 => absurd (by rw [h0]) (fun e2 : k = a => by rw [e2, sLt_irrefl] at h; cases h)) id⟩
  ·have h0 : sLt a k = false := by simpa using h
   have e : fnd (a :: l) k = sEq a k := by simp [fnd, lb, h0]
   rw [e, sEq_iff, List.mem_cons]
   constructor
   ·exact fun h' => .inl h'.symm
   ·rintro (h' | h')
    ·exact h'.symm
    ·rw [hr.1 k h'] at h0; cases h0
theorem lb_get {l : List ByteArray} (hr : Rise l) {k : ByteArray} (h : k ∈ l) : l[lb l k]? = some k := by
 have := (fnd_iff hr).2 h
 simp only [fnd] at this
 split at this
 ·rename_i x hx; rw [hx, sEq_iff.1 this]
 ·cases this
section
variable {β : Type}
def ins (m : List (ByteArray × β)) (k : ByteArray) (n : β) : List (ByteArray × β) := m.take (lb (ks m) k) ++ (k, n) :: m.drop (lb (ks m) k)
def dlt (m : List (ByteArray × β)) (k : ByteArray) : List (ByteArray × β) := m.take (lb (ks m) k) ++ m.drop (lb (ks m) k + 1)
def put1 (m : List (ByteArray × β)) (k : ByteArray) (n : β) : List (ByteArray × β) := m.set (lb (ks m) k) (k, n)
def look (m : List (ByteArray × β)) (k : ByteArray) : Option β := if fnd (ks m) k then (m[lb (ks m) k]?).map (·.2) else none
/-- The first that isn't below a key, or is above it. -/
def nxt (m : List (ByteArray × β)) (k : ByteArray) (above : Bool) : Option (ByteArray × β) := m[if fnd (ks m) k && above then lb (ks m) k + 1 else lb (ks m) k]?
variable {A M B : List (ByteArray × β)} {k : ByteArray} {n : β}
theorem ks_append : ks (A ++ B) = ks A ++ ks B := by simp [ks]
theorem ks_length : (ks A).length = A.length := by simp [ks]
theorem lb_mid (hA : ∀ x ∈ ks A, sLt x k = true) (hB : ∀ x ∈ ks B, sLt x k = false) : lb (ks (A ++ (M ++ B))) k = A.length + lb (ks M) k := by
 rw [ks_append, lb_right hA, ks_append, lb_left hB, ks_length]
theorem ins_mid (hA : ∀ x ∈ ks A, sLt x k = true) (hB : ∀ x ∈ ks B, sLt x k = false) : ins (A ++ (M ++ B)) k n = A ++ (ins M k n ++ B) := by
 have hl : lb (ks M) k ≤ M.length := by have := lb_le (ks M) k; rwa [ks_length] at this
 unfold ins
 rw [lb_mid hA hB, List.take_length_add_append, List.drop_length_add_append, List.take_append_of_le_length hl, List.drop_append_of_le_length hl]
 simp
theorem dlt_mid (hA : ∀ x ∈ ks A, sLt x k = true) (hB : ∀ x ∈ ks B, sLt x k = false) (hM : lb (ks M) k < M.length) : dlt (A ++ (M ++ B)) k = A ++ (dlt M k ++ B) := by
 unfold dlt
 rw [lb_mid hA hB, List.take_length_add_append, Nat.add_assoc, List.drop_length_add_append, List.take_append_of_le_length (by omega), List.drop_append_of_le_length (by omega)]
 simp
theorem lb_take {l : List ByteArray} (hr : Rise l) {k : ByteArray} : ∀ x ∈ l.take (lb l k), sLt x k = true := by
 induction l with
 | nil => simp
 | cons a l ih =>
  by_cases h : sLt a k = true
  ·simp only [lb, h, if_true, List.take_succ_cons, List.mem_cons]
   rintro x (rfl | hx)
   ·exact h
   ·exact ih hr.2 x hx
  ·simp [lb, h]
theorem lb_drop {l : List ByteArray} (hr : Rise l) {k : ByteArray} : ∀ x ∈ l.drop (lb l k), sLt x k = false := by
 induction l with
 | nil => simp
 | cons a l ih =>
  by_cases h : sLt a k = true
  ·simp only [lb, h, if_true, List.drop_succ_cons]
   exact ih hr.2
  ·have h0 : sLt a k = false := by simpa using h
   simp only [lb, h0, Bool.false_eq_true, if_false, List.drop_zero, List.mem_cons]
   rintro x (rfl | hx)
   ·exact h0
   ·cases hq : sLt x k with
    | false => rfl
    | true => rw [sLt_trans (hr.1 x hx) hq] at h0; cases h0
theorem ks_ins : ks (ins M k n) = (ks M).take (lb (ks M) k) ++ k :: (ks M).drop (lb (ks M) k) := by simp [ins, ks, List.map_take, List.map_drop]
theorem ks_dlt : ks (dlt M k) = (ks M).take (lb (ks M) k) ++ (ks M).drop (lb (ks M) k + 1) := by simp [dlt, ks, List.map_take, List.map_drop]
theorem mem_ins {x : ByteArray} : x ∈ ks (ins M k n) ↔ x = k ∨ x ∈ ks M := by
 rw [ks_ins]
 conv => rhs; rw [← List.take_append_drop (lb (ks M) k) (ks M)]
 simp only [List.mem_append, List.mem_cons]
 constructor
 ·rintro (h | h | h)
  ·exact .inr (.inl h)
  ·exact .inl h
  ·exact .inr (.inr h)
 ·rintro (h | h | h)
  ·exact .inr (.inl h)
  ·exact .inl h
  ·exact .inr (.inr h)
theorem mem_dlt {x : ByteArray} (h : x ∈ ks (dlt M k)) : x ∈ ks M := by
 rw [ks_dlt, List.mem_append] at h
 rcases h with h | h
 ·exact List.mem_of_mem_take h
 ·exact List.mem_of_mem_drop h
theorem rise_take {l : List ByteArray} (hr : Rise l) (i : Nat) : Rise (l.take i) := by
 rw [← List.take_append_drop i l] at hr; exact (rise_append.1 hr).1
theorem rise_drop {l : List ByteArray} (hr : Rise l) (i : Nat) : Rise (l.drop i) := by
 rw [← List.take_append_drop i l] at hr; exact (rise_append.1 hr).2.1
theorem rise_insL {l : List ByteArray} (hr : Rise l) {k : ByteArray} (hk : k ∉ l) : Rise (l.take (lb l k) ++ k :: l.drop (lb l k)) := by
 refine rise_append.2 ⟨rise_take hr _, ⟨fun b hb => ?_, rise_drop hr _⟩, fun x hx y hy => ?_⟩
 ·rcases not_sLt (lb_drop hr b hb) with h | h
  ·exact absurd (h ▸ List.mem_of_mem_drop hb) hk
  ·exact h
 ·rcases List.mem_cons.1 hy with rfl | hy
  ·exact lb_take hr x hx
  ·rw [← List.take_append_drop (lb l k) l] at hr
   exact (rise_append.1 hr).2.2 x hx y hy
theorem rise_ins (hr : Rise (ks M)) (hk : k ∉ ks M) : Rise (ks (ins M k n)) := by rw [ks_ins]; exact rise_insL hr hk
theorem rise_cut {l : List ByteArray} (hr : Rise l) (i j : Nat) (h : i ≤ j) : Rise (l.take i ++ l.drop j) := by
 have h1 := hr
 rw [← List.take_append_drop i l] at h1
 have h2 := rise_append.1 h1
 have hs : ∀ y ∈ l.drop j, y ∈ l.drop i := fun y hy => by
  have : l.drop j = (l.drop i).drop (j - i) := by rw [List.drop_drop]; congr 1; omega
  rw [this] at hy; exact List.mem_of_mem_drop hy
 exact rise_append.2 ⟨h2.1, rise_drop hr _, fun x hx y hy => h2.2.2 x hx y (hs y hy)⟩
theorem rise_dlt (hr : Rise (ks M)) : Rise (ks (dlt M k)) := by rw [ks_dlt]; exact rise_cut hr _ _ (by omega)
theorem ks_zip {l : List ByteArray} {v : List β} (h : v.length = l.length) : ks (l.zip v) = l := by
 unfold ks; exact List.map_fst_zip (by omega)
theorem ins_zip {l : List ByteArray} {v : List β} (h : v.length = l.length) : ins (l.zip v) k n = (l.take (lb l k) ++ k :: l.drop (lb l k)).zip (v.take (lb l k) ++ n :: v.drop (lb l k)) := by
 unfold ins
 rw [ks_zip h, List.zip_append (by simp [h]), List.zip_cons_cons]
 simp [List.zip, List.take_zipWith, List.drop_zipWith]
theorem dlt_zip {l : List ByteArray} {v : List β} (h : v.length = l.length) : dlt (l.zip v) k = (l.take (lb l k) ++ l.drop (lb l k + 1)).zip (v.take (lb l k) ++ v.drop (lb l k + 1)) := by
 unfold dlt
 rw [ks_zip h, List.zip_append (by simp [h])]
 simp [List.zip, List.take_zipWith, List.drop_zipWith]
theorem ins_len : (ins M k n).length = M.length + 1 := by
 have hl : lb (ks M) k ≤ M.length := by have := lb_le (ks M) k; rwa [ks_length] at this
 simp [ins]; omega
theorem fnd_lt0 {l : List ByteArray} (h : fnd l k = true) : lb l k < l.length := by
 simp only [fnd] at h
 split at h
 ·rename_i hx; exact (List.getElem?_eq_some_iff.1 hx).1
 ·cases h
theorem fnd_mid (hA : ∀ x ∈ ks A, sLt x k = true) (hB : ∀ x ∈ ks B, sLt k x = true) : fnd (ks (A ++ (M ++ B))) k = fnd (ks M) k := by
 have hB' : ∀ x ∈ ks B, sLt x k = false := fun x hx => sLt_asymm (hB x hx)
 have hl := lb_le (ks M) k
 unfold fnd
 rw [lb_mid hA hB', ks_append, ks_append, ← ks_length (A := A), List.getElem?_append_right (by omega), Nat.add_sub_cancel_left]
 by_cases h : lb (ks M) k < (ks M).length
 ·rw [List.getElem?_append_left h]
 ·rw [List.getElem?_append_right (by omega), List.getElem?_eq_none (l := ks M) (by omega)]
  cases hb : (ks B)[lb (ks M) k - (ks M).length]? with
  | none => rfl
  | some x => exact sEq_false.2 fun e => sLt_ne (hB x (List.mem_of_getElem? hb)) e.symm
theorem look_mid (hA : ∀ x ∈ ks A, sLt x k = true) (hB : ∀ x ∈ ks B, sLt k x = true) : look (A ++ (M ++ B)) k = look M k := by
 have hB' : ∀ x ∈ ks B, sLt x k = false := fun x hx => sLt_asymm (hB x hx)
 unfold look
 rw [fnd_mid hA hB, lb_mid hA hB']
 cases h : fnd (ks M) k with
 | false => rfl
 | true =>
  have hlt := fnd_lt0 h
  rw [ks_length] at hlt
  rw [List.getElem?_append_right (by omega), Nat.add_sub_cancel_left, List.getElem?_append_left hlt]
theorem put1_mid (hA : ∀ x ∈ ks A, sLt x k = true) (hB : ∀ x ∈ ks B, sLt k x = true) (hf : fnd (ks M) k = true) : put1 (A ++ (M ++ B)) k n = A ++ (put1 M k n ++ B) := by
 have hB' : ∀ x ∈ ks B, sLt x k = false := fun x hx => sLt_asymm (hB x hx)
 have hlt := fnd_lt0 hf
 rw [ks_length] at hlt
 unfold put1
 rw [lb_mid hA hB', List.set_append_right _ _ (by omega), Nat.add_sub_cancel_left, List.set_append_left _ _ hlt]
theorem look_zip {l : List ByteArray} {v : List β} (h : v.length = l.length) : look (l.zip v) k = if fnd l k then v[lb l k]? else none := by
 unfold look
 rw [ks_zip h]
 cases hf : fnd l k with
 | false => rfl
 | true =>
  have hlt := fnd_lt0 hf
  simp only [if_true]
  rw [List.getElem?_eq_getElem (by simp [h]; exact hlt), List.getElem?_eq_getElem (by omega)]
  simp
theorem nxt_mid (hA : ∀ x ∈ ks A, sLt x k = true) (hB : ∀ x ∈ ks B, sLt k x = true) (ab : Bool) : nxt (A ++ (M ++ B)) k ab = match nxt M k ab with | some q => some q | none => B[0]? := by
 have hB' : ∀ x ∈ ks B, sLt x k = false := fun x hx => sLt_asymm (hB x hx)
 unfold nxt
 rw [fnd_mid hA hB, lb_mid hA hB']
 have key : ∀ j, j ≤ M.length → (A ++ (M ++ B))[A.length + j]? = match M[j]? with | some q => some q | none => B[0]? := by
  intro j hj
  rw [List.getElem?_append_right (by omega), Nat.add_sub_cancel_left]
  by_cases h : j < M.length
  ·rw [List.getElem?_append_left h, List.getElem?_eq_getElem h]
  ·rw [List.getElem?_append_right (by omega), List.getElem?_eq_none (l := M) (by omega), show j - M.length = 0 by omega]
 have hl : lb (ks M) k ≤ M.length := by have := lb_le (ks M) k; rwa [ks_length] at this
 cases hf : fnd (ks M) k && ab with
 | false => simpa using key _ hl
 | true =>
  have hlt := fnd_lt0 (by simp at hf; exact hf.1)
  rw [ks_length] at hlt
  simp only [if_true]
  rw [Nat.add_assoc]
  exact key _ (by omega)
end
end Go.Eng
