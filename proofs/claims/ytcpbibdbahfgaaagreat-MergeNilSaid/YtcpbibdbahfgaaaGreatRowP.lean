/-
 From what a law's call does to what a row says: memory as it came in, as one chunk; arguments opened.
-/
import Derived.Test.YtcpbibdbahfgaaaGreatEng11
import Derived.WalkKit
import Derived.ProofKit
import Derived.OpenShut
import Derived.ShutString
import Derived.ChangeOld
import Derived.Below
import Derived.Carry
import Derived.SizedLaws
import Derived.Lib.SmallJoins
set_option linter.unusedVariables false
set_option autoImplicit false
namespace Go.Eng
/-- All that was there. -/
def Mem (W : World) : HP := ⟨fun r _ => ∀ b o, W.heap[b]? = some o → r b = some o, fun hr _ h b o e => hr b o (h b o e)⟩
structure KeptW (W W' : World) : Prop where
 os : W'.os = W.os
 output : W'.output = W.output
 block : ∀ k, k < W.heap.size → W'.heap[k]? = W.heap[k]?
theorem mem_holds (W : World) : Holds ⟨W.os, W.output⟩ W (sep (seps [Mem W]) emp) :=
 ⟨rfl, rfl, fun b => W.heap[b]?, fun _ => none, ⟨fun _ _ h => h, fun _ _ h => (by cases h), fun _ => .inr rfl⟩, fun _ => none, fun _ => none, fun _ => .inl ⟨rfl, rfl⟩,
  ⟨fun _ => none, fun _ => none, fun _ => .inl ⟨rfl, rfl⟩, fun _ _ h => h, trivial⟩, trivial⟩
theorem mem_kept {W W' : World} (h : Holds ⟨W.os, W.output⟩ W' (sep (seps [Mem W]) emp)) : KeptW W W' := by
 obtain ⟨h1, h2, r, x, s, x1, x2, hj, ⟨y1, y2, hj2, hm, _⟩, _⟩ := h
 refine ⟨h1, h2, fun k hk => ?_⟩
 have e : W.heap[k]? = some W.heap[k] := Array.getElem?_eq_getElem hk
 rw [e]
 exact s.ro k _ (hm k _ e)
theorem law_calls {P : Program} {f : FuncId} {args : List Value} {W : World} (h : Does P f args [Mem W] (fun v l => v = .bool true ∧ l = [Mem W])) : Calls P f args.toArray W (fun e W' => e = .returned (.bool true) ∧ KeptW W W') :=
 (h _ emp W (mem_holds W)).mono fun e W' ⟨v, l', ⟨hv, hl⟩, he, hw⟩ => ⟨by rw [he, hv], mem_kept (by rw [hl] at hw; exact hw)⟩
theorem Mem.same {W W' : World} {ι : Io} (h : Holds ι W' (Mem W)) {a : Addr} {c : Value} (e : W.cell? a = some c) : W'.cell? a = some c := by
 obtain ⟨_, _, r, x, s, hm⟩ := h
 unfold World.cell? at e ⊢
 cases hb : W.heap[a.block]? with
 | none => rw [hb] at e; cases e
 | some o =>
  have h1 : W'.heap[a.block]? = some o := s.ro a.block o (hm _ _ hb)
  rw [hb] at e
  rw [h1]; exact e
theorem Rd.mem {α : Type} {E : Enc α} {h : SH} {xs : List α} {W : World} (r : Rd E h xs W) : Vis (Mem W) (Rd E h xs) := fun ι w hw => ⟨r.len, r.cap, r.adr, fun m c hc => Mem.same hw (r.cell m c hc)⟩
theorem KeptW.same {W W' : World} (h : KeptW W W') {p : MemPlace} (hp : p.block < W.heap.size) : W.sameAt W' p := by
 cases p with
 | cell b o => exact World.cell?_of_block (w := W) (h.block b hp)
 | map b => exact h.block b hp
theorem KeptW.frame {W W' : World} (h : KeptW W W') (may : MemPlace → Prop) : W.keptBut W' may := by
 refine ⟨h.os, h.output, fun i hi => ?_⟩
 rw [h.block i hi]
 split <;> simp_all
theorem KeptW.trod {H : Type} {enc : TypeId × Value → H} {P : Program} {t : TypeId} (hl : laidOutB P = true) (hr : P.readableRec t = true) (hrow : t < P.types.size) {W W' : World} {v : Value} {d : DataW H} {ps : List MemPlace}
  (h : DataW.Trod enc P W 0 (fun _ => true) true t v d ps) (hb : KeptW W W') : DataW.Trod enc P W' 0 (fun b => decide (b < W.heap.size)) true t v d ps := by
 have hlt : ∀ x ∈ ps, x.block < W.heap.size := by obtain ⟨m, hm⟩ := h; exact DataW.trod_lt m _ _ _ hm
 exact WideElems.Trod_stays hl hr hrow h (fun x hx => hb.same (hlt x hx)) (fun x hx => by simpa using hlt x hx)
/-- A slice of whole numbers that came in. -/
theorem rd_ints {E : Enc Int} {k : IntKind} (hE : ∀ z, E.f z = [.int k z]) {W : World} {a : Addr} {len cap : Nat} {zs : List Int} (hl : len ≤ cap) (hz : zs.length = cap) (hc : ∀ i, i < zs.length → W.cell? (a.add i) = some (.int k (zs.getD i 0))) :
  Rd E ⟨some a, len, cap⟩ (zs.take len) W := by
 have hf : ∀ ys : List Int, flat E ys = ys.map (Value.int k) := fun ys => by
  induction ys with
  | nil => rfl
  | cons y ys ih => rw [flat_cons, hE, ih]; rfl
 have hsp : zs ≠ [] → a.spot = none := fun h => by
  have h0 := hc 0 (by cases zs with | nil => exact absurd rfl h | cons _ _ => simp)
  have e0 : a.add 0 = a := rfl
  rw [e0] at h0
  unfold World.cell? at h0
  cases hs : a.spot with
  | none => rfl
  | some s => rw [hs] at h0; split at h0 <;> simp at h0
 refine ⟨by simp; omega, by simp; omega, ?_, fun m c hm => ?_⟩
 ·by_cases h0 : zs = []
  ·right
   subst h0
   simp at hz
   exact ⟨by simp, by simp; omega⟩
  ·left
   have := hsp h0
   obtain ⟨b, o, s⟩ := a
   simp only at this
   subst this
   rfl
 ·rw [hf, List.getElem?_map] at hm
  have hml : m < len ∧ m < zs.length := by
   cases hg : (zs.take len)[m]? with
   | none => rw [hg] at hm; cases hm
   | some z => have := (List.getElem?_eq_some_iff.1 hg).1; rw [List.length_take] at this; omega
  have hne : zs ≠ [] := fun h0 => by rw [h0] at hml; simp at hml
  have hs := hsp hne
  rw [List.getElem?_take_of_lt hml.1, List.getElem?_eq_getElem hml.2] at hm
  simp at hm
  subst hm
  have h1 := hc m hml.2
  rw [List.getD_eq_getElem?_getD, List.getElem?_eq_getElem hml.2] at h1
  obtain ⟨b, o, s⟩ := a
  simp only at hs
  subst hs
  rw [add_lit] at h1
  exact h1
end Go.Eng
