/-
 From what a law's call does to what a row says: memory as it came in, as one chunk; arguments opened.
-/
import Derived.Test.YtcpbibdbahfgaaaGreatPl3
import Derived.WalkKit
import Derived.ProofKit
import Derived.OpenShut
import Derived.ShutString
import Derived.ChangeOld
import Derived.Below
import Derived.Carry
import Derived.SizedLaws
import Derived.Lib.SmallJoins
import Derived.Test.YtcpbibdbahfgaaaGreatPl15
import Derived.Deep.Strs
set_option linter.unusedVariables false
set_option autoImplicit false
namespace Go.Eng
/-- All that was there. -/
def Mem (W : World) : HP := ⟨fun r _ => ∀ b o, W.heap[b]? = some o → r b = some o, fun hr _ h b o e => hr b o (h b o e)⟩
structure KeptW (W W' : World) : Prop where
 os : W'.os = W.os
 output : W'.output = W.output
 block : ∀ k, k < W.heap.size → W'.heap[k]? = W.heap[k]?
theorem mem_holds (W : World) : Holds ⟨W.os, W.output⟩ W (sep (seps [Mem W]) emp) :=
 ⟨rfl, rfl, fun b => W.heap[b]?, fun _ => none, ⟨fun _ _ h => h, fun _ _ h => (by cases h), fun _ => .inr rfl⟩, fun _ => none, fun _ => none, fun _ => .inl ⟨rfl, rfl⟩,
  ⟨fun _ => none, fun _ => none, fun _ => .inl ⟨rfl, rfl⟩, fun _ _ h => h, trivial⟩, trivial⟩
theorem mem_kept {W W' : World} (h : Holds ⟨W.os, W.output⟩ W' (sep (seps [Mem W]) emp)) : KeptW W W' := by
 obtain ⟨h1, h2, r, x, s, x1, x2, hj, ⟨y1, y2, hj2, hm, _⟩, _⟩ := h
 refine ⟨h1, h2, fun k hk => ?_⟩
 have e : W.heap[k]? = some W.heap[k] := Array.getElem?_eq_getElem hk
 rw [e]
 exact s.ro k _ (hm k _ e)
theorem law_calls {P : Program} {f : FuncId} {args : List Value} {W : World} (h : Does P f args [Mem W] (fun v l => v = .bool true ∧ l = [Mem W])) : Calls P f args.toArray W (fun e W' => e = .returned (.bool true) ∧ KeptW W W') :=
 (h _ emp W (mem_holds W)).mono fun e W' ⟨v, l', ⟨hv, hl⟩, he, hw⟩ => ⟨by rw [he, hv], mem_kept (by rw [hl] at hw; exact hw)⟩
theorem Mem.same {W W' : World} {ι : Io} (h : Holds ι W' (Mem W)) {a : Addr} {c : Value} (e : W.cell? a = some c) : W'.cell? a = some c := by
 obtain ⟨_, _, r, x, s, hm⟩ := h
 unfold World.cell? at e ⊢
 cases hb : W.heap[a.block]? with
 | none => rw [hb] at e; cases e
 | some o =>
  have h1 : W'.heap[a.block]? = some o := s.ro a.block o (hm _ _ hb)
  rw [hb] at e
  rw [h1]; exact e
theorem Rd.mem {α : Type} {E : Enc α} {h : SH} {xs : List α} {W : World} (r : Rd E h xs W) : Vis (Mem W) (Rd E h xs) := fun ι w hw => ⟨r.len, r.cap, r.adr, fun m c hc => Mem.same hw (r.cell m c hc)⟩
theorem KeptW.same {W W' : World} (h : KeptW W W') {p : MemPlace} (hp : p.block < W.heap.size) : W.sameAt W' p := by
 cases p with
 | cell b o => exact World.cell?_of_block (w := W) (h.block b hp)
 | map b => exact h.block b hp
theorem KeptW.frame {W W' : World} (h : KeptW W W') (may : MemPlace → Prop) : W.keptBut W' may := by
 refine ⟨h.os, h.output, fun i hi => ?_⟩
 rw [h.block i hi]
 split <;> simp_all
theorem KeptW.trod {H : Type} {enc : TypeId × Value → H} {P : Program} {t : TypeId} (hl : laidOutB P = true) (hr : P.readableRec t = true) (hrow : t < P.types.size) {W W' : World} {v : Value} {d : DataW H} {ps : List MemPlace}
  (h : DataW.Trod enc P W 0 (fun _ => true) true t v d ps) (hb : KeptW W W') : DataW.Trod enc P W' 0 (fun b => decide (b < W.heap.size)) true t v d ps := by
 have hlt : ∀ x ∈ ps, x.block < W.heap.size := by obtain ⟨m, hm⟩ := h; exact DataW.trod_lt m _ _ _ hm
 exact WideElems.Trod_stays hl hr hrow h (fun x hx => hb.same (hlt x hx)) (fun x hx => by simpa using hlt x hx)
/-- A slice of whole numbers that came in. -/
theorem rd_ints {E : Enc Int} {k : IntKind} (hE : ∀ z, E.f z = [.int k z]) {W : World} {a : Addr} {len cap : Nat} {zs : List Int} (hl : len ≤ cap) (hz : zs.length = cap) (hc : ∀ i, i < zs.length → W.cell? (a.add i) = some (.int k (zs.getD i 0))) :
  Rd E ⟨some a, len, cap⟩ (zs.take len) W := by
 have hf : ∀ ys : List Int, flat E ys = ys.map (Value.int k) := fun ys => by
  induction ys with
  | nil => rfl
  | cons y ys ih => rw [flat_cons, hE, ih]; rfl
 have hsp : zs ≠ [] → a.spot = none := fun h => by
  have h0 := hc 0 (by cases zs with | nil => exact absurd rfl h | cons _ _ => simp)
  have e0 : a.add 0 = a := rfl
  rw [e0] at h0
  unfold World.cell? at h0
  cases hs : a.spot with
  | none => rfl
  | some s => rw [hs] at h0; split at h0 <;> simp at h0
 refine ⟨by simp; omega, by simp; omega, ?_, fun m c hm => ?_⟩
 ·by_cases h0 : zs = []
  ·right
   subst h0
   simp at hz
   exact ⟨by simp, by simp; omega⟩
  ·left
   have := hsp h0
   obtain ⟨b, o, s⟩ := a
   simp only at this
   subst this
   rfl
 ·rw [hf, List.getElem?_map] at hm
  have hml : m < len ∧ m < zs.length := by
   cases hg : (zs.take len)[m]? with
   | none => rw [hg] at hm; cases hm
   | some z => have := (List.getElem?_eq_some_iff.1 hg).1; rw [List.length_take] at this; omega
  have hne : zs ≠ [] := fun h0 => by rw [h0] at hml; simp at hml
  have hs := hsp hne
  rw [List.getElem?_take_of_lt hml.1, List.getElem?_eq_getElem hml.2] at hm
  simp at hm
  subst hm
  have h1 := hc m hml.2
  rw [List.getD_eq_getElem?_getD, List.getElem?_eq_getElem hml.2] at h1
  obtain ⟨b, o, s⟩ := a
  simp only at hs
  subst hs
  rw [add_lit] at h1
  exact h1
end Go.Eng
/-
 Arguments opened: slices of structs, and slices in them.
-/
set_option linter.unusedVariables false
set_option autoImplicit false
namespace Go.Eng
/-- What cells of a type read as. -/
def Opens {α H : Type} (enc : TypeId × Value → H) (P : Program) (W : World) (E : Enc α) (R : α → Prop) : Prop :=
 ∀ fuel cs x, DataW.trod enc P W 0 (fun _ => true) true fuel E.ty cs = some x → ∃ a, cs = E.f a ∧ R a
theorem exists_list {α : Type} (Q : Nat → α → Prop) : ∀ n, (∀ i, i < n → ∃ a, Q i a) → ∃ xs : List α, xs.length = n ∧ ∀ i (h : i < xs.length), Q i xs[i]
 | 0, _ => ⟨[], rfl, fun i h => by simp at h⟩
 | n + 1, h => by
  obtain ⟨xs, h1, h2⟩ := exists_list Q n fun i hi => h i (by omega)
  obtain ⟨a, ha⟩ := h n (by omega)
  refine ⟨xs ++ [a], by simp [h1], fun i hi => ?_⟩
  by_cases hl : i < xs.length
  ·rw [List.getElem_append_left hl]; exact h2 i hl
  ·have : i = n := by simp at hi; omega
   subst this
   rw [List.getElem_append_right (by omega)]
   simpa [h1] using ha
theorem flat_inv {α : Type} {E : Enc α} : ∀ {xs : List α} {m : Nat} {c : Value}, (flat E xs)[m]? = some c → ∃ j k, ∃ hj : j < xs.length, m = j * E.sz + k ∧ (E.f xs[j])[k]? = some c
 | [], m, c, h => by simp [flat] at h
 | x :: xs, m, c, h => by
  rw [flat_cons] at h
  by_cases hm : m < (E.f x).length
  ·rw [List.getElem?_append_left hm] at h
   exact ⟨0, m, by simp, by omega, h⟩
  ·rw [List.getElem?_append_right (by omega)] at h
   obtain ⟨j, k, hj, e, hk⟩ := flat_inv h
   have hl := E.len x
   refine ⟨j + 1, k, by simpa using hj, ?_, by simpa using hk⟩
   rw [Nat.succ_mul]; omega
theorem spot_none {W : World} {a : Addr} {c : Value} (h0 : W.cell? a = some c) : a.spot = none := by
 unfold World.cell? at h0
 cases hs : a.spot with
 | none => rfl
 | some s => rw [hs] at h0; split at h0 <;> simp at h0
theorem open_slice {α H : Type} {enc : TypeId × Value → H} {P : Program} {W : World} {E : Enc α} {R : α → Prop} {t : TypeId} (ht : P.underlying t = some (.slice E.ty)) (hc : P.cellsOf E.ty = E.sz) (hO : Opens enc P W E R) {fuel : Nat} {cs : List Value} {x : DataW H × List MemPlace}
  (h : DataW.trod enc P W 0 (fun _ => true) true fuel t cs = some x) : ∃ (g : SH) (xs : List α), cs = [g.v] ∧ Rd E g xs W ∧ (∀ a ∈ xs, R a) ∧ xs.length ≤ maxLen := by
 rcases DataW.trod_slice ht h with ⟨rfl, _⟩ | ⟨a, len, cap, elems, rest, n, _, rfl, rfl, hb, hl, hm, hlen, hel, hsp, _⟩
 ·exact ⟨nilS, [], rfl, Go.Proofs.YtcpbibdbahfgaaaGreat.Rd.nil, by simp, by simp⟩
 obtain ⟨hrl, hr⟩ := hsp rfl
 have each : ∀ i, i < cap → ∃ cs', W.cells? 0 (a.add (i * P.cellsOf E.ty)) (P.cellsOf E.ty) = some cs' ∧ ∃ y, DataW.trod enc P W 0 (fun _ => true) true n E.ty cs' = some y := by
  intro i hi
  have : ∃ y, (W.cells? 0 (a.add (i * P.cellsOf E.ty)) (P.cellsOf E.ty)).bind (DataW.trod enc P W 0 (fun _ => true) true n E.ty) = some y := by
   by_cases h1 : i < len
   ·rw [hel i h1, List.getElem?_eq_getElem (by omega)]; exact ⟨_, rfl⟩
   ·have := hr (i - len) (by omega)
    rw [show len + (i - len) = i by omega] at this
    rw [this, List.getElem?_eq_getElem (by omega)]; exact ⟨_, rfl⟩
  obtain ⟨y, hy⟩ := this
  rw [Option.bind_eq_some_iff] at hy
  obtain ⟨cs', h1, h2⟩ := hy
  exact ⟨cs', h1, y, h2⟩
 obtain ⟨xs, hx1, hx2⟩ := exists_list (fun i y => R y ∧ W.cells? 0 (a.add (i * P.cellsOf E.ty)) (P.cellsOf E.ty) = some (E.f y)) len fun i hi => by
  obtain ⟨cs', h1, y, h2⟩ := each i (by omega)
  obtain ⟨z, rfl, hz⟩ := hO _ _ _ h2
  exact ⟨z, hz, h1⟩
 have hpos := E.pos
 have hsp : 0 < cap → a.spot = none := fun h0 => by
  obtain ⟨cs', h1, _⟩ := each 0 h0
  have h2 := (World.cells?_some h1).2.2 0 (by rw [hc]; exact hpos)
  have h3 := (World.cells?_some h1).2.1
  rw [Nat.zero_mul] at h2
  have e0 : (a.add 0).add 0 = a := rfl
  rw [e0, List.getElem?_eq_getElem (by rw [h3, hc]; exact hpos)] at h2
  exact spot_none h2
 refine ⟨⟨some a, len, cap⟩, xs, rfl, ⟨hx1.symm, (by show xs.length ≤ cap; omega), ?_, fun m c hmc => ?_⟩, fun y hy => ?_, by omega⟩
 ·by_cases h0 : 0 < cap
  ·left
   have := hsp h0
   obtain ⟨b, o, s⟩ := a
   simp only at this
   subst this; rfl
  ·right
   exact ⟨List.length_eq_zero_iff.1 (by omega), by simp only; omega⟩
 ·obtain ⟨j, k, hj, rfl, hk⟩ := flat_inv hmc
  have h1 := (hx2 j hj).2
  have hkl : k < E.sz := by have := (List.getElem?_eq_some_iff.1 hk).1; rwa [E.len] at this
  have h2 := (World.cells?_some h1).2.2 k (by rw [hc]; exact hkl)
  rw [hk] at h2
  have hs := hsp (by omega)
  obtain ⟨b, o, s⟩ := a
  simp only at hs
  subst hs
  rw [add_lit, add_lit, hc, Nat.add_assoc] at h2
  exact h2
 ·obtain ⟨i, hi, rfl⟩ := List.getElem_of_mem hy
  exact (hx2 i hi).1
end Go.Eng
/-
 Arguments of layer 11: writes, acts.
-/
set_option linter.unusedVariables false
set_option autoImplicit false
namespace Go.Proofs.YtcpbibdbahfgaaaGreat
open Go.Eng Go.ChangeShapes
section
variable {H : Type} {enc : TypeId × Value → H} {W : World}
theorem wfI64 {n : Int} (h : (Lit.int .i64 n).wf = true) : -9223372036854775808 ≤ n ∧ n ≤ 9223372036854775807 := by
 simp only [Lit.wf, Bool.and_eq_true, decide_eq_true_eq] at h
 exact h
theorem wfU64' {n : Int} (h : (Lit.int .u64 n).wf = true) : 0 ≤ n ∧ n ≤ 18446744073709551615 := by
 simp only [Lit.wf, Bool.and_eq_true, decide_eq_true_eq] at h
 exact h
theorem wfU8' {n : Int} (h : (Lit.int .u8 n).wf = true) : 0 ≤ n ∧ n ≤ 255 := by
 simp only [Lit.wf, Bool.and_eq_true, decide_eq_true_eq] at h
 exact h
theorem len3 {α : Type} {cs : List α} (h : cs.length = 3) : ∃ a b c, cs = [a, b, c] := by
 match cs, h with
 | [a, b, c], _ => exact ⟨a, b, c, rfl⟩
theorem len5 {α : Type} {cs : List α} (h : cs.length = 5) : ∃ a b c d e, cs = [a, b, c, d, e] := by
 match cs, h with
 | [a, b, c, d, e], _ => exact ⟨a, b, c, d, e, rfl⟩
theorem trod_struct5 {P : Program} {base : Nat} {spare : Nat → Bool} {held : Bool} {t : TypeId} {f0 f1 f2 f3 f4 : Field} {fuel : Nat} {cs : List Value} {x : DataW H × List MemPlace} (ht : P.underlying t = some (.struct #[f0, f1, f2, f3, f4])) (h : DataW.trod enc P W base spare held fuel t cs = some x) :
  ∃ y0 y1 y2 y3 y4 n, cs.length = P.cellsOf t ∧ DataW.trod enc P W base spare held n f0.type ((cs.drop f0.offset).take (P.cellsOf f0.type)) = some y0 ∧ DataW.trod enc P W base spare held n f1.type ((cs.drop f1.offset).take (P.cellsOf f1.type)) = some y1 ∧
   DataW.trod enc P W base spare held n f2.type ((cs.drop f2.offset).take (P.cellsOf f2.type)) = some y2 ∧ DataW.trod enc P W base spare held n f3.type ((cs.drop f3.offset).take (P.cellsOf f3.type)) = some y3 ∧ DataW.trod enc P W base spare held n f4.type ((cs.drop f4.offset).take (P.cellsOf f4.type)) = some y4 := by
 obtain ⟨xs, n, _, rfl, hl, hlen, hf⟩ := DataW.trod_struct ht h
 match xs, hlen with
 | [y0, y1, y2, y3, y4], _ => exact ⟨y0, y1, y2, y3, y4, n, hl, by simpa using hf 0 f0 rfl, by simpa using hf 1 f1 rfl, by simpa using hf 2 f2 rfl, by simpa using hf 3 f3 rfl, by simpa using hf 4 f4 rfl⟩
theorem co_string : Tryz.prog.cellsOf 9 = 1 := by kernel_rfl
theorem co_bool : Tryz.prog.cellsOf 4 = 1 := by kernel_rfl
theorem co_int : Tryz.prog.cellsOf 3 = 1 := by kernel_rfl
theorem co_u8 : Tryz.prog.cellsOf 5 = 1 := by kernel_rfl
theorem co_u64 : Tryz.prog.cellsOf 34 = 1 := by kernel_rfl
theorem co_val : Tryz.prog.cellsOf 45 = 3 := by kernel_rfl
theorem co_wr : Tryz.prog.cellsOf 97 = 5 := by kernel_rfl
theorem co_wrs : Tryz.prog.cellsOf 35 = 1 := by kernel_rfl
theorem co_act : Tryz.prog.cellsOf 37 = 5 := by kernel_rfl
theorem opens_u64 : Opens enc Tryz.prog W eU64 (fun z => 0 ≤ z ∧ z ≤ 18446744073709551615) := fun fuel cs x h => by
 obtain ⟨n, rfl, _, hw⟩ := DataW.trod_int Tryz.underlying34 h
 exact ⟨n, rfl, wfU64' hw⟩
theorem opens_val : Opens enc Tryz.prog W eVal (fun v => 0 ≤ v.bits ∧ v.bits ≤ 18446744073709551615) := fun fuel cs x h => by
 obtain ⟨y0, y1, y2, n, _, hl, h0, h1, h2⟩ := Go.Deep.trod_struct3 Tryz.underlying45 h
 obtain ⟨a, b, c, rfl⟩ := len3 (hl.trans co_val)
 dsimp only at h0 h1 h2
 rw [co_bool] at h0
 rw [co_string] at h1
 rw [co_u64] at h2
 obtain ⟨t0, e0, _⟩ := DataW.trod_bool Tryz.underlying4 h0
 obtain ⟨t1, e1, _⟩ := DataW.trod_string Tryz.underlying9 h1
 obtain ⟨t2, e2, _, hw⟩ := DataW.trod_int Tryz.underlying34 h2
 simp at e0 e1 e2
 subst e0 e1 e2
 exact ⟨⟨t0, t1, t2⟩, rfl, wfU64' hw⟩
theorem opens_wr : Opens enc Tryz.prog W eWr (fun w => 0 ≤ w.val.bits ∧ w.val.bits ≤ 18446744073709551615) := fun fuel cs x h => by
 obtain ⟨y0, y1, y2, n, _, hl, h0, h1, h2⟩ := Go.Deep.trod_struct3 Tryz.underlying97 h
 obtain ⟨a, b, c, d, e, rfl⟩ := len5 (hl.trans co_wr)
 dsimp only at h0 h1 h2
 rw [co_string] at h0
 rw [co_bool] at h1
 rw [co_val] at h2
 obtain ⟨t0, e0, _⟩ := DataW.trod_string Tryz.underlying9 h0
 obtain ⟨t1, e1, _⟩ := DataW.trod_bool Tryz.underlying4 h1
 obtain ⟨v, e2, hv⟩ := opens_val _ _ _ h2
 simp [eVal, Val.cs] at e0 e1 e2
 obtain ⟨rfl, rfl, rfl⟩ := e2
 subst e0 e1
 exact ⟨⟨t0, t1, v⟩, rfl, hv⟩
structure ActRd (W : World) (a : ActV) : Prop where
 rd : Rd eWr a.hL a.ws W
 bits : ∀ w ∈ a.ws, 0 ≤ w.val.bits ∧ w.val.bits ≤ 18446744073709551615
 by' : 0 ≤ a.by' ∧ a.by' ≤ 255
 seq : a.seq ≤ 9223372036854775807
theorem ActRd.ok {a : ActV} (h : ActRd W a) : ActOk (Mem W) a := ⟨h.rd.mem, h.bits, h.by', h.seq⟩
theorem opens_act : Opens enc Tryz.prog W eAct (ActRd W) := fun fuel cs x h => by
 obtain ⟨y0, y1, y2, y3, y4, n, hl, h0, h1, h2, h3, h4⟩ := trod_struct5 Tryz.underlying37 h
 obtain ⟨a, b, c, d, e, rfl⟩ := len5 (hl.trans co_act)
 dsimp only at h0 h1 h2 h3 h4
 rw [co_int] at h0 h3
 rw [co_wrs] at h1
 rw [co_u8] at h2
 rw [co_string] at h4
 obtain ⟨t0, e0, _⟩ := DataW.trod_int Tryz.underlying3 h0
 obtain ⟨g, ws, e1, hrd, hw, _⟩ := open_slice (E := eWr) Tryz.underlying35 co_wr opens_wr h1
 obtain ⟨t2, e2, _, w2⟩ := DataW.trod_int Tryz.underlying5 h2
 obtain ⟨t3, e3, _, w3⟩ := DataW.trod_int Tryz.underlying3 h3
 obtain ⟨t4, e4, _⟩ := DataW.trod_string Tryz.underlying9 h4
 simp at e0 e1 e2 e3 e4
 subst e0 e1 e2 e3 e4
 exact ⟨⟨t0, g, t2, t3, t4, ws⟩, rfl, hrd, hw, wfU8' w2, (wfI64 w3).2⟩
end
end Go.Proofs.YtcpbibdbahfgaaaGreat
