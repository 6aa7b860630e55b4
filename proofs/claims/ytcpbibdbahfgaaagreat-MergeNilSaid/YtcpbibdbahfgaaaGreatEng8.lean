/-
 The engine's rules for arrays seen cell by cell, with what lists they come to.
-/
import Derived.Test.YtcpbibdbahfgaaaGreatEng7
set_option linter.unusedVariables false
set_option linter.unusedSimpArgs false
set_option autoImplicit false
namespace Go.Eng
section
variable {P : Program} {ι : Io} {F : HP} {n : Nat} {ρ : List (Nat × Value)} {l : List HP} {K : Act → World → Prop} {Q : Exit → Act → World → Prop} {all : Array Oper} {rest : List Oper}
variable {d : Nat} {ty : TypeId} {pos : String} {aft : Array Edge} {dst : Option Nat} {gd : Option (Nat × Bool)}
theorem vc_re (i : Nat) {A A' : HP} (hA : nth l i = some A) (e : A = A') (h : VC ι F n K ρ (put l i A')) : VC ι F n K ρ l := by
 subst e
 have : put l i A = l := by
  clear h
  induction l generalizing i with
  | nil => simp [nth] at hA
  | cons B l ih => cases i with
   | zero => simp [nth] at hA; subst hA; rfl
   | succ i => simp [nth] at hA; simp only [put]; rw [ih i hA]
 rwa [this] at h
theorem vc_cells (i : Nat) {b : Nat} {cs : List Value} {e : TypeId} (cs' : List Value) (hA : nth l i = some (Pts b cs e)) (he : cs = cs') (h : VC ι F n K ρ (put l i (Pts b cs' e))) : VC ι F n K ρ l := vc_re i hA (by rw [he]) h
theorem flat_rep {α : Type} (E : Enc α) (z : α) (m : Nat) : (List.replicate m (E.f z)).flatten = flat E (List.replicate m z) := by
 induction m with
 | zero => rfl
 | succ m ih => rw [List.replicate_succ, List.replicate_succ, flat_cons, List.flatten_cons, ih]
/-- clear(s): noughts. -/
theorem vc_clearE (i : Nat) {b : Nat} {cs : List Value} {e : TypeId} (hA : nth l i = some (Pts b cs e)) {α : Type} (E : Enc α) (z : α) {t : TypeId} {zv : Value} (ht : P.underlying t = some (.slice E.ty)) (hz : (P.info? E.ty).map (·.zero) = some (some zv)) (hzs : zv.cells = (E.f z).toArray)
  {x : Operand} {o m c : Nat} (hx : ev ρ x = some (.slice (some ⟨b, o, none⟩) m c)) (hm : 0 < m) (hfit : o + m * E.sz ≤ cs.length) (hd : okO n dst = true)
  (g : VC ι F n (wpList P all Q rest) (putO dst (.tuple #[]) ρ) (put l i (Pts b (splice cs o (flat E (List.replicate m z))) e))) :
  VC ι F n (wpList P all Q (⟨dst, .call { callee := .builtin .clear, args := #[x], argTypes := #[t] }, ty, pos, aft, none⟩ :: rest)) ρ l :=
 vc_clearRaw i hA (E.f z) ht hz hzs (by simpa using fun c hc => E.one z c hc) hx hm (by rw [E.len]; exact hfit) hd (by rw [flat_rep]; exact g)
end
section
variable {α : Type}
theorem over_len {xs ys : List α} {j : Nat} (hj : j ≤ xs.length) : (over xs j ys).length = max xs.length (j + ys.length) := by simp [over]; omega
/-- What a slice comes to, out of which some are taken; the rest noughts. -/
theorem over_del {xs : List α} {i j m : Nat} (z : α) (hi : i ≤ j) (hj : j ≤ xs.length) (hm : m = i + (xs.length - j)) : over (over xs i (xs.drop j)) m (List.replicate (j - i) z) = (xs.take i ++ xs.drop j) ++ List.replicate (j - i) z := by
 subst hm
 unfold over
 have h1 : (xs.take i ++ xs.drop j).length = i + (xs.length - j) := by simp; omega
 rw [List.take_left' h1]
 have h2 : i + (xs.length - j) + (List.replicate (j - i) z).length = (xs.take i ++ xs.drop j ++ xs.drop (i + (xs.drop j).length)).length := by simp; omega
 rw [h2, List.drop_length, List.append_nil]
/-- One more, in its place. -/
theorem over_ins {xs : List α} {i : Nat} (y : α) (hi : i < xs.length) : over (over xs (i + 1) (xs.drop i)) i [y] = xs.take i ++ y :: xs.drop i := by
 unfold over
 have h1 : (xs.take (i + 1) ++ xs.drop i ++ xs.drop (i + 1 + (xs.drop i).length)) = xs.take (i + 1) ++ xs.drop i := by
  have h0 : xs.drop (i + 1 + (xs.drop i).length) = [] := List.drop_eq_nil_of_le (by simp; omega)
  rw [h0, List.append_nil]
 rw [h1]
 have h2 : (xs.take (i + 1) ++ xs.drop i).take i = xs.take i := by
  rw [List.take_append_of_le_length (by simp; omega), List.take_take]; congr 1; omega
 have h3 : (xs.take (i + 1) ++ xs.drop i).drop (i + [y].length) = xs.drop i := by
  have : (xs.take (i + 1)).length = i + [y].length := by simp; omega
  rw [List.drop_left' this]
 rw [h2, h3]; simp
theorem over_new {xs : List α} {i : Nat} (y z : α) (hi : i < xs.length) : over (over (xs.take i ++ List.replicate (xs.length + 1 - i) z) i [y]) (i + 1) (xs.drop i) = xs.take i ++ y :: xs.drop i := by
 unfold over
 have h1 : (xs.take i).length = i := by simp; omega
 have h2 : (xs.take i ++ List.replicate (xs.length + 1 - i) z).take i = xs.take i := List.take_left' h1
 have h3 : (xs.take i ++ List.replicate (xs.length + 1 - i) z).drop (i + [y].length) = List.replicate (xs.length - i) z := by
  rw [show i + [y].length = (xs.take i).length + 1 by simp; omega, List.drop_length_add_append, List.drop_replicate]
  congr 1; omega
 rw [h2, h3]
 have h4 : (xs.take i ++ [y]).length = i + 1 := by simp; omega
 have h5 : (xs.take i ++ [y] ++ List.replicate (xs.length - i) z).drop (i + 1 + (xs.drop i).length) = [] := List.drop_eq_nil_of_le (by simp only [List.length_append, h1, List.length_replicate, List.length_drop, List.length_singleton]; omega)
 rw [List.take_left' h4, h5]
 simp
end
theorem Rd.re {α : Type} {E : Enc α} {h : SH} {xs : List α} {w : World} (r : Rd E h xs w) : Rd E ⟨h.a, xs.length, h.cap⟩ xs w := by
 have := r.len
 cases h; simp at this; subst this; exact r
theorem Rd.cutL {α : Type} {E : Enc α} {h : SH} {xs : List α} {w : World} (r : Rd E h xs w) {i : Nat} (hi : i ≤ xs.length) : Rd E (h.cut E.sz 0 i h.cap) (xs.take i) w := by
 have := r.cut (lo := 0) (hi := i) (mx := h.cap) (Nat.zero_le _) hi (by have := r.cap; omega) (Nat.le_refl _)
 rwa [List.drop_zero] at this
theorem Rd.cutT {α : Type} {E : Enc α} {h : SH} {xs : List α} {w : World} (r : Rd E h xs w) {i : Nat} (hi : i ≤ xs.length) : Rd E (h.cut E.sz i xs.length h.cap) (xs.drop i) w := by
 have := r.cut (lo := i) (hi := xs.length) (mx := h.cap) hi (Nat.le_refl _) r.cap (Nat.le_refl _)
 rwa [List.take_length] at this
theorem Rd.cutD {α : Type} {E : Enc α} {h : SH} {xs : List α} {w : World} (r : Rd E h xs w) {i : Nat} (hi : i ≤ xs.length) : Rd E (h.cut E.sz i h.len h.cap) (xs.drop i) w := by
 have := r.cutT hi
 rwa [← r.len] at this
theorem minL {a b : Nat} (h : a ≤ b) : a = Nat.min a b := (Nat.min_eq_left h).symm
theorem minR {a b : Nat} (h : b ≤ a) : b = Nat.min a b := (Nat.min_eq_right h).symm
theorem takeAll {α : Type} {xs : List α} {i : Nat} : (xs.drop i).take (xs.drop i).length = xs.drop i := List.take_length
/-- The lists ahead of a place, one behind the other. -/
def catN {α : Type} (L : List (SH × List α)) (i : Nat) : List α := (L.take i).flatMap (·.2)
theorem cat_succ {α : Type} {L : List (SH × List α)} {i : Nat} {p : SH × List α} (h : L[i]? = some p) : catN L (i + 1) = catN L i ++ p.2 := by
 have hlt := (List.getElem?_eq_some_iff.1 h).1
 have hp := (List.getElem?_eq_some_iff.1 h).2
 unfold catN
 rw [List.take_add_one, h]
 simp
theorem cat_zero {α : Type} {L : List (SH × List α)} : catN L 0 = [] := rfl
theorem cat_all {α : Type} {L : List (SH × List α)} : catN L L.length = L.flatMap (·.2) := by simp [catN]
theorem cat_le {α : Type} {L : List (SH × List α)} (i : Nat) : (catN L i).length ≤ (L.flatMap (·.2)).length := by
 have h : L.flatMap (·.2) = catN L i ++ (L.drop i).flatMap (·.2) := by
  unfold catN
  rw [← List.flatMap_append, List.take_append_drop]
 rw [h]; simp
theorem cells_agg (cs : Array Value) : (Value.agg cs).cells = cs := rfl
end Go.Eng
