/-
 The engine's rules for arrays by their address, and for bytes made a string.
-/
import Derived.Test.YtcpbibdbahfgaaaGreatEng9
import Derived.Laws.BytesArg
set_option linter.unusedVariables false
set_option linter.unusedSimpArgs false
set_option autoImplicit false
namespace Go.Eng
section
variable {P : Program} {ι : Io} {F : HP} {n : Nat} {ρ : List (Nat × Value)} {l : List HP} {K : Act → World → Prop} {Q : Exit → Act → World → Prop} {all : Array Oper} {rest : List Oper}
variable {d : Nat} {ty : TypeId} {pos : String} {aft : Array Edge} {dst : Option Nat} {gd : Option (Nat × Bool)}
/-- Where an array of so many elements lies. -/
structure TyArr (P : Program) (t : TypeId) (m : Nat) (e : TypeId) (s : Nat) : Prop where
 und : P.underlying t = some (.array m e)
 size : (P.info? e).map (·.size) = some s
theorem y_elemArr {t e : TypeId} {m s : Nat} (ht : TyArr P t m e s) {x y : Operand} {h : SH} {k : IntKind} {z : Int} (j : Nat) (hj : z = (j : Int)) (hlt : j < m) {b : Nat} (hb : h.a = some ⟨b, 0, none⟩) (hx : ev ρ x = some (.pointer (some ⟨b, 0, none⟩))) (hy : ev ρ y = some (.int k z)) :
  Yld P ι F n ρ l ⟨dst, .indexAddr t x y, ty, pos, aft, gd⟩ (.pointer (some (eAd h s j 0))) := fun a w he hw => by
 subst hj
 have hlc : (j : Int) < (m : Int) := by exact_mod_cast hlt
 simp [execOp, he.eval hx, he.eval hy, Instr.indexAt, asIntOf, run_underlying ht.und, hlt, run_sizeOf ht.size, add_lit, eAd, Instr.sureAddr, SH.blk, SH.off, hb]
theorem y_sliceArr {t e : TypeId} {m s : Nat} (ht : TyArr P t m e s) {x : Operand} {b : Nat} (hx : ev ρ x = some (.pointer (some ⟨b, 0, none⟩))) :
  Yld P ι F n ρ l ⟨dst, .slice t x none none none, ty, pos, aft, gd⟩ (.slice (some ⟨b, 0, none⟩) m m) := fun a w he hw => by
 by_cases hm : m = 0
 ·subst hm
  simp [execOp, he.eval hx, Instr.sliceAt, run_underlying ht.und, Instr.sureAddr, Instr.sliceBounds, run_sizeOf ht.size]
 ·simp [execOp, he.eval hx, Instr.sliceAt, run_underlying ht.und, Instr.sureAddr, Instr.sliceBounds, run_sizeOf ht.size, add_lit, hm]
theorem y_bytesStr (i : Nat) {A : HP} (hA : nth l i = some A) {E : Enc Int} (hE : ∀ z, E.f z = [.int .u8 z]) {h : SH} {xs : List Int} (hv : Vis A (Rd E h xs)) {b o : Nat} (hb : h.a = some ⟨b, o, none⟩) {src dst' e : TypeId} (hs : P.underlying src = some (.slice e)) (he : P.underlying e = some (.int .u8)) (hd : P.underlying dst' = some .string)
  {x : Operand} (hx : ev ρ x = some h.v) : Yld P ι F n ρ l ⟨dst, .convert src dst' x, ty, pos, aft, gd⟩ (.string (strOfNums xs)) := fun a w hev hw => by
 have hr := hv ι w (VC.chunk hw hA)
 have hsz : E.sz = 1 := by rw [← E.len 0, hE]; rfl
 have hf : flat E xs = xs.map (Value.int .u8) := by
  have : ∀ ys : List Int, flat E ys = ys.map (Value.int .u8) := fun ys => by
   induction ys with
   | nil => rfl
   | cons y ys ih => rw [flat_cons, hE, ih]; rfl
  exact this xs
 have h1 : a.eval x = .slice (some ⟨b, o, none⟩) h.len h.cap := by rw [hev.eval hx]; unfold SH.v; rw [hb]
 simp only [execOp, h1]
 have := run_convert_bytes_arg (P := P) w src e hs he b o h.len h.cap xs hr.len.symm (fun i hi => by
  have h2 := hr.cell i (.int .u8 (xs.getD i 0)) (by
   rw [hf, List.getElem?_map, List.getD_eq_getElem?_getD, List.getElem?_eq_getElem (by rw [← hr.len]; exact hi)]; rfl)
  simpa [SH.blk, SH.off, hb] using h2) dst' hd
 simp [this]
end
end Go.Eng
