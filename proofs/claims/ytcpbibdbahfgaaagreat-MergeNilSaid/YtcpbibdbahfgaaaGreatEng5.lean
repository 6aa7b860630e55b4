/-
  The engine's rules for slices: cutting, appending, copying, clearing.
-/
import Derived.Test.YtcpbibdbahfgaaaGreatEng4
set_option linter.unusedVariables false
set_option linter.unusedSimpArgs false
set_option autoImplicit false
namespace Go.Eng

def SH.cut (h : SH) (sz lo hi mx : Nat) : SH := ⟨if mx = lo then h.a else h.a.map (·.add (lo * sz)), hi - lo, mx - lo⟩
section
variable {α : Type} {E : Enc α} {h : SH} {xs : List α}
theorem cut_length {xs : List α} {lo hi : Nat} (h1 : lo ≤ hi) (h2 : hi ≤ xs.length) : ((xs.take hi).drop lo).length = hi - lo := by simp; omega
theorem Rd.cut {w : World} (hr : Rd E h xs w) {lo hi mx : Nat} (h1 : lo ≤ hi) (h2 : hi ≤ xs.length) (h3 : hi ≤ mx) (h4 : mx ≤ h.cap) : Rd E (h.cut E.sz lo hi mx) ((xs.take hi).drop lo) w := by
  have hl := cut_length (xs := xs) h1 h2
  by_cases hm : mx = lo
  · have he : (xs.take hi).drop lo = [] := List.eq_nil_of_length_eq_zero (by omega)
    rw [he]
    exact ⟨by simp [SH.cut]; omega, by simp, .inr ⟨rfl, by simp [SH.cut]; omega⟩, fun m c hc => by simp [flat] at hc⟩
  · rcases hr.adr with ha | ⟨h0, hc⟩
    · refine ⟨by simp [SH.cut, hl], by simp [SH.cut, hl]; omega, .inl ?_, fun m c hc => ?_⟩
      · simp only [SH.cut, hm, if_false]
        rw [ha]
        simp [SH.blk, SH.off, add_lit]
      · have e1 : (h.cut E.sz lo hi mx).blk = h.blk := by
          simp only [SH.cut, hm, if_false, SH.blk]; rw [ha]; simp [add_lit]
        have e2 : (h.cut E.sz lo hi mx).off = h.off + lo * E.sz := by
          simp only [SH.cut, hm, if_false, SH.off]; rw [ha]; simp [add_lit, SH.off]
        rw [e1, e2]
        rw [flat_drop, flat_take, List.getElem?_drop, List.getElem?_take] at hc
        split at hc
        · have := hr.cell _ c hc
          rwa [show h.off + (lo * E.sz + m) = h.off + lo * E.sz + m by omega] at this
        · cases hc
    · omega
theorem Sl.cut {lo hi mx : Nat} (h1 : lo ≤ hi) (h2 : hi ≤ xs.length) (h3 : hi ≤ mx) (h4 : mx ≤ h.cap) : Ent (Sl E h xs) (Sl E (h.cut E.sz lo hi mx) ((xs.take hi).drop lo)) := by
  rintro r x ⟨a0, hh⟩
  have hl := cut_length (xs := xs) h1 h2
  refine ⟨by simp [SH.cut, hl], ?_⟩
  by_cases hm : mx = lo
  · exact .inl ⟨List.eq_nil_of_length_eq_zero (by omega), by simp [SH.cut]; omega⟩
  · rcases hh with ⟨h0, hc⟩ | ⟨b, pre, post, a1, a2, a3, a4⟩
    · omega
    · have hlen : (flat E (xs.take lo)).length = lo * E.sz := by rw [flat_length, List.length_take]; congr 1; omega
      refine .inr ⟨b, pre ++ flat E (xs.take lo), flat E (xs.drop hi) ++ post, ?_, ?_, ?_, ?_⟩
      · simp only [SH.cut, hm, if_false, a1]; simp [add_lit, hlen]
      · simp [SH.cut, hl]; omega
      · simp only [SH.cut, hl, List.length_append, flat_length, List.length_drop]
        have e1 : (mx - lo - (hi - lo)) = mx - hi := by omega
        rw [e1]
        have e2 : (mx - hi) * E.sz ≤ (xs.length - hi + (h.cap - xs.length)) * E.sz := Nat.mul_le_mul_right _ (by omega)
        rw [Nat.add_mul] at e2
        omega
      · have e : pre ++ flat E (xs.take lo) ++ flat E ((xs.take hi).drop lo) ++ (flat E (xs.drop hi) ++ post) = pre ++ flat E xs ++ post := by
          have : xs = xs.take lo ++ ((xs.take hi).drop lo ++ xs.drop hi) := by
            have h5 : xs.take lo = (xs.take hi).take lo := by rw [List.take_take]; congr 1; omega
            rw [h5, ← List.append_assoc, List.take_append_drop, List.take_append_drop]
          conv => rhs; rw [this]
          simp [flat_append]
        rw [e]; exact a4
end

section
variable {P : Program} {ι : Io} {F : HP} {n : Nat} {ρ : List (Nat × Value)} {l : List HP} {K : Act → World → Prop} {Q : Exit → Act → World → Prop} {all : Array Oper} {rest : List Oper}
variable {d : Nat} {ty : TypeId} {pos : String} {aft : Array Edge} {dst : Option Nat} {gd : Option (Nat × Bool)}

/-- A bound of a slice expression, as it is known. -/
def bnd (ρ : List (Nat × Value)) (o : Option Operand) (dflt : Nat) (m : Nat) : Prop :=
  match o with
  | none => m = dflt
  | some x => ∃ k z, ev ρ x = some (.int k z) ∧ z = (m : Int)
theorem run_bound {y : Nat} {m : Nat} {k : IntKind} {z : Int} (hz : z = (m : Int)) (hm : m ≤ y) (c : BoundsCode) (w : World) : (Instr.sliceBound (.int k z) y c).run P w = .ok m w := by
  subst hz
  have hm' : (m : Int) ≤ (y : Int) := by exact_mod_cast hm
  simp [Instr.sliceBound, asIntOf, hm]
/-- s[lo:hi:max] of a slice. -/
theorem y_slice {t e : TypeId} {sz : Nat} (ht : TySl P t e sz) {x : Operand} {h : SH} (hx : ev ρ x = some h.v) {ol oh om : Option Operand} (lo hi mx : Nat) (b1 : bnd ρ ol 0 lo) (b2 : bnd ρ oh h.len hi) (b3 : bnd ρ om h.cap mx) (hom : om.isSome = true → oh.isSome = true)
    (h1 : lo ≤ hi) (h2 : hi ≤ mx) (h3 : mx ≤ h.cap) : Yld P ι F n ρ l ⟨dst, .slice t x ol oh om, ty, pos, aft, gd⟩ ((h.cut sz lo hi mx).v) := fun a w he hw => by
      have hb : (Instr.sliceBounds true h.len h.cap (ol.map a.eval) (oh.map a.eval) (om.map a.eval)).run P w = .ok (lo, hi, mx) w := by
        unfold Instr.sliceBounds
        cases om with
        | none =>
          simp only [bnd] at b3; subst b3
          cases oh with
          | none =>
            simp only [bnd] at b2; subst b2
            cases ol with
            | none => simp only [bnd] at b1; subst b1; simp
            | some x1 => obtain ⟨k1, z1, e1, q1⟩ := b1; simp [he.eval e1, run_bound q1 h1]
          | some x2 =>
            obtain ⟨k2, z2, e2, q2⟩ := b2
            cases ol with
            | none => simp only [bnd] at b1; subst b1; simp [he.eval e2, run_bound q2 h2]
            | some x1 => obtain ⟨k1, z1, e1, q1⟩ := b1; simp [he.eval e1, he.eval e2, run_bound q2 h2, run_bound q1 h1]
        | some x3 =>
          obtain ⟨k3, z3, e3, q3⟩ := b3
          cases oh with
          | none => simp at hom
          | some x2 =>
            obtain ⟨k2, z2, e2, q2⟩ := b2
            cases ol with
            | none => simp only [bnd] at b1; subst b1; simp [he.eval e2, he.eval e3, run_bound q3 h3, run_bound q2 h2]
            | some x1 => obtain ⟨k1, z1, e1, q1⟩ := b1; simp [he.eval e1, he.eval e2, he.eval e3, run_bound q3 h3, run_bound q2 h2, run_bound q1 h1]
      have e1 : a.eval x = .slice h.a h.len h.cap := he.eval hx
      simp only [execOp, Instr.sliceAt, Instr.slice, run_underlying ht.und, Sem.run_bind, Result.andThen_ok, e1, hb, run_sizeOf ht.size]
      simp [SH.cut, SH.v]
/-- s[lo:hi] of a string. -/
theorem y_sliceStr {t : TypeId} (ht : P.underlying t = some .string) {x : Operand} {s : ByteArray} (hx : ev ρ x = some (.string s)) {ol oh : Option Operand} (lo hi : Nat) (b1 : bnd ρ ol 0 lo) (b2 : bnd ρ oh s.size hi)
    (h1 : lo ≤ hi) (h2 : hi ≤ s.size) : Yld P ι F n ρ l ⟨dst, .slice t x ol oh none, ty, pos, aft, gd⟩ (.string (s.extract lo hi)) := fun a w he hw => by
      have hb : (Instr.sliceBounds false s.size s.size (ol.map a.eval) (oh.map a.eval) none).run P w = .ok (lo, hi, s.size) w := by
        unfold Instr.sliceBounds
        cases oh with
        | none =>
          simp only [bnd] at b2; subst b2
          cases ol with
          | none => simp only [bnd] at b1; subst b1; simp
          | some x1 => obtain ⟨k1, z1, e1, q1⟩ := b1; simp [he.eval e1, run_bound q1 h1]
        | some x2 =>
          obtain ⟨k2, z2, e2, q2⟩ := b2
          cases ol with
          | none => simp only [bnd] at b1; subst b1; simp [he.eval e2, run_bound q2 h2]
          | some x1 => obtain ⟨k1, z1, e1, q1⟩ := b1; simp [he.eval e1, he.eval e2, run_bound q2 h2, run_bound q1 h1]
      have e1 : a.eval x = .string s := he.eval hx
      simp only [execOp, Instr.sliceAt, Instr.slice, run_underlying ht, Sem.run_bind, Result.andThen_ok, e1, Option.map_none]
      simp [hb]

theorem Rd.src {α : Type} {E : Enc α} {h : SH} {xs : List α} {w : World} (hr : Rd E h xs w) {tx e : TypeId} (ht : P.underlying tx = some (.slice e)) : Src P E.sz tx h.v xs.length (flat E xs) w := by
  have hl := flat_length E xs
  have h1 := flat_one E xs
  rcases hr.adr with ha | ⟨h0, hc⟩
  · unfold SH.v
    rw [ha, hr.len]
    exact Src.ofSlice w ht _ _ _ _ hl (fun j u hu => by rw [add_lit]; exact hr.cell j u hu) h1
  · subst h0
    unfold SH.v
    have h2 : h.len = 0 := by simpa using hr.len
    rw [h2]
    cases h.a with
    | none => exact Src.ofNil w ht _
    | some ad => exact Src.ofSlice w ht ad 0 h.cap [] (by simp) (fun j u hu => by simp at hu) (by simp)
structure TyEl (P : Program) (t : TypeId) {α : Type} (E : Enc α) (by_ : Nat) : Prop where
  und : P.underlying t = some (.slice E.ty)
  info : ∃ z, (P.info? E.ty).map (fun i => (i.zero, i.size, i.bytes)) = some (some z, E.sz, by_) ∧ z.cells.size = E.sz
theorem info_get {t : TypeId} {z : Value} {s b : Nat} (h : (P.info? t).map (fun i => (i.zero, i.size, i.bytes)) = some (some z, s, b)) : ∃ i, P.info? t = some i ∧ i.zero = some z ∧ i.size = s ∧ i.bytes = b := by
  cases hq : P.info? t with
  | none => simp [hq] at h
  | some i => simp [hq] at h; exact ⟨i, rfl, h.1, h.2.1, h.2.2⟩
theorem Holds.draw1 {w : World} {A : HP} (h : Holds ι w A) : Holds ι w.drew A := h.drew (w.drawn + 1)
theorem Sl.pts {α : Type} {E : Enc α} {h : SH} {xs : List α} {w : World} {F : HP} (hw : Holds ι w (sep (Sl E h xs) F)) :
    h.len = xs.length ∧ ((xs = [] ∧ h.cap = 0) ∨ ∃ b pre post, h.a = some ⟨b, pre.length, none⟩ ∧ xs.length ≤ h.cap ∧ (h.cap - xs.length) * E.sz ≤ post.length ∧ Holds ι w (sep (Pts b (pre ++ flat E xs ++ post) E.ty) F)) := by
  obtain ⟨g1, g2, r, x0, s, x1, x2, hj, ⟨hl, hh⟩, hf⟩ := hw
  refine ⟨hl, hh.imp id ?_⟩
  rintro ⟨b, pre, post, a1, a2, a3, a4⟩
  exact ⟨b, pre, post, a1, a2, a3, g1, g2, r, x0, s, x1, x2, hj, a4, hf⟩
theorem nextslicecap_any {need old : Nat} (h : old < need) {b : Nat} (hb : need * b ≤ 140737488355328) : Builtin.nextslicecap need old * b ≤ 281474976710656 := growslice_fits h hb
/-- append, in whatever room. -/
theorem run_appendE {α : Type} {E : Enc α} {h h2 : SH} {xs ys : List α} {w : World} {G : HP} (hw : Holds ι w (sep (Sl E h xs) G)) (hr : Rd E h2 ys w) {t tx ty : TypeId} {by_ : Nat} (ht : TyEl P t E by_) {e' : TypeId} (htx : P.underlying tx = some (.slice e'))
    (h63 : xs.length + ys.length ≤ 9223372036854775807) (hby : (xs.length + ys.length) * by_ ≤ 140737488355328) :
    ∃ (h' : SH) (w' : World), (Builtin.append_ #[t, tx] ty #[h.v, h2.v]).run P w = .ok h'.v w' ∧ Holds ι w' (sep (Sl E h' (xs ++ ys)) G) := by
  obtain ⟨z, hinfo, hz⟩ := ht.info
  obtain ⟨i, hi, hz0, hsz, hbs⟩ := info_get hinfo
  have hsrc := hr.src (P := P) htx
  rw [← hsz] at hsrc
  obtain ⟨hl, hh⟩ := Sl.pts hw
  have grow : ∀ (hold : (Builtin.firstCells i.size xs.length (.slice h.a xs.length h.cap)).run P w.drew = .ok (flat E xs).toArray w.drew) (hg : h.cap < xs.length + ys.length), ∃ (h' : SH) (w' : World), (Builtin.append_ #[t, tx] ty #[h.v, h2.v]).run P w = .ok h'.v w' ∧ Holds ι w' (sep (Sl E h' (xs ++ ys)) G) := by
    intro hold hg
    have hrun := run_append_grow_src (P := P) w t tx ty E.ty i z ht.und hi hz0 h.a xs.length h.cap (flat E xs) hold h2.v ys.length (flat E ys) hsrc hg (by omega) (nextslicecap_any hg (by rw [hbs]; exact hby))
    refine ⟨⟨some ⟨w.heap.size, 0, none⟩, xs.length + ys.length, grownCap w (xs.length + ys.length) h.cap E.ty⟩, (w.drew.alloc (.cells ((flat E xs ++ flat E ys).toArray ++ Builtin.zeroCells z.cells (grownCap w (xs.length + ys.length) h.cap E.ty - (xs.length + ys.length))) E.ty)), ?_, ?_⟩
    · unfold SH.v at hrun ⊢
      rw [hl]; exact hrun
    · have hge := grownCap_ge w (xs.length + ys.length) h.cap E.ty
      have hG : Holds ι w.drew G := (hw.ent Ent.right).draw1
      have hn := hG.new (flat E (xs ++ ys) ++ (Builtin.zeroCells z.cells (grownCap w (xs.length + ys.length) h.cap E.ty - (xs.length + ys.length))).toList) E.ty
      have hq : (Builtin.zeroCells z.cells (grownCap w (xs.length + ys.length) h.cap E.ty - (xs.length + ys.length))).toList.length = (grownCap w (xs.length + ys.length) h.cap E.ty - (xs.length + ys.length)) * E.sz := by
        rw [Array.length_toList, size_zeroCells, hz]
      have e : (flat E (xs ++ ys) ++ (Builtin.zeroCells z.cells (grownCap w (xs.length + ys.length) h.cap E.ty - (xs.length + ys.length))).toList).toArray = ((flat E xs ++ flat E ys).toArray ++ Builtin.zeroCells z.cells (grownCap w (xs.length + ys.length) h.cap E.ty - (xs.length + ys.length))) := by
        apply Array.ext'; simp [flat_append]
      rw [e] at hn
      refine Holds.ent hn (Ent.sep ?_ Ent.rfl)
      have := Sl.mk1 (E := E) w.drew.heap.size (xs ++ ys) (grownCap w (xs.length + ys.length) h.cap E.ty) (Builtin.zeroCells z.cells (grownCap w (xs.length + ys.length) h.cap E.ty - (xs.length + ys.length))).toList (by simpa using hge) (by rw [hq]; simp)
      simpa using this
  rcases hh with ⟨rfl, hc⟩ | ⟨b, pre, post, a1, a2, a3, hP⟩
  · by_cases hy : ys = []
    · subst hy
      refine ⟨⟨h.a, 0, 0⟩, w, ?_, ?_⟩
      · have hsk := hsrc.kind
        have hlen := hsrc.len w
        have hcl := hsrc.cells
        unfold SH.v at *
        rw [hl, hc]
        simp only [flat_nil, List.length_nil] at hcl hlen
        rcases hsk with ⟨e'', hk⟩ | hk <;> cases ha : h.a <;> simp [Builtin.append_, run_underlying ht.und, run_underlying hk, sizeOf, typeInfo, hi, hlen, hcl, storeCells]
      · exact hw.ent (Ent.sep (fun r x _ => ⟨rfl, .inl ⟨rfl, rfl⟩⟩) Ent.rfl)
    · refine grow ?_ ?_
      · have hl0 : h.len = 0 := by simpa using hl
        cases ha : h.a with
        | none => simp [Builtin.firstCells, flat]
        | some ad =>
          have := run_firstCells_some (P := P) w.drew i.size 0 ad 0 h.cap [] (by simp) (fun j v hv => by simp at hv)
          simpa [flat] using this
      · rw [hc]; simp; exact List.length_pos_iff.2 hy
  · have hpt := (hP.ent Ent.left).pts
    by_cases hroom : xs.length + ys.length ≤ h.cap
    · have hyl : ys.length * E.sz ≤ post.length := by
        have : ys.length * E.sz ≤ (h.cap - xs.length) * E.sz := Nat.mul_le_mul_right _ (by omega)
        omega
      have hcells : (Builtin.firstCells i.size ys.length h2.v).run P w = .ok (flat E ys).toArray w := hsrc.cells
      have hst := run_storeCells_at P b (pre.length + xs.length * E.sz) E.ty (flat E ys) 0 (pre ++ flat E xs ++ post).toArray w hpt (by simp [flat_length]; omega) (flat_one E ys)
      simp only [Nat.add_zero] at hst
      refine ⟨⟨some ⟨b, pre.length, none⟩, xs.length + ys.length, h.cap⟩, w.setRow b (splice (pre ++ flat E xs ++ post) (pre.length + xs.length * E.sz) (flat E ys)).toArray, ?_, ?_⟩
      · have hlen := hsrc.len w
        unfold SH.v at *
        rw [hl, a1]
        have hsz' : i.size = E.sz := hsz
        rw [hsz'] at hcells
        rcases hsrc.kind with ⟨e'', hk⟩ | hk <;>
          (simp [Builtin.append_, run_underlying ht.und, run_underlying hk, sizeOf, typeInfo, hi, hlen, hroom, hsz', add_lit]
           rw [hcells]
           simp only [Result.andThen_ok]
           rw [hst]
           simp [splice, Result.andThen])
      · have hs := hP.set (splice (pre ++ flat E xs ++ post) (pre.length + xs.length * E.sz) (flat E ys))
        refine hs.ent (Ent.sep ?_ Ent.rfl)
        intro r x hx
        refine ⟨by simp, .inr ⟨b, pre, post.drop (ys.length * E.sz), rfl, by simpa using hroom, ?_, ?_⟩⟩
        · simp only [List.length_append, List.length_drop]
          have e1 : h.cap - (xs.length + ys.length) = h.cap - xs.length - ys.length := by omega
          rw [e1, Nat.sub_mul]; omega
        · have e : splice (pre ++ flat E xs ++ post) (pre.length + xs.length * E.sz) (flat E ys) = pre ++ flat E (xs ++ ys) ++ post.drop (ys.length * E.sz) := by
            unfold splice
            have e2 : pre.length + xs.length * E.sz = (pre ++ flat E xs).length := by simp [flat_length]
            rw [e2, List.take_left, List.drop_length_add_append, flat_length, flat_append]
            simp
          rw [← e]; exact hx
    · exact grow (by
        have := run_firstCells_some (P := P) w.drew i.size xs.length ⟨b, pre.length, none⟩ xs.length h.cap (flat E xs) (by rw [flat_length, hsz]) (fun j u hu => by
          rw [add_lit]
          have hd : (w.drew).heap[b]? = some (.cells (pre ++ flat E xs ++ post).toArray E.ty (0, 0)) := hpt
          exact cell_mid w.drew b pre _ post _ _ hd j u hu)
        rw [a1]; exact this) (by omega)
/-- append(s, t...). -/
theorem vc_append (i : Nat) {α : Type} {E : Enc α} {h h2 : SH} {xs ys : List α} (hA : nth l i = some (Sl E h xs)) (j : Nat) {B : HP} (hB : nth l j = some B) (hv : Vis B (Rd E h2 ys)) {t tx : TypeId} {by_ : Nat} (ht : TyEl P t E by_) {e' : TypeId} (htx : P.underlying tx = some (.slice e'))
    {x y : Operand} (hx : ev ρ x = some h.v) (hy : ev ρ y = some h2.v) (h63 : xs.length + ys.length ≤ 9223372036854775807) (hby : (xs.length + ys.length) * by_ ≤ 140737488355328) (hd : Nat.blt d n = true)
    (g : ∀ h' : SH, VC ι F n (wpList P all Q rest) ((d, h'.v) :: ρ) (put l i (Sl E h' (xs ++ ys)))) :
    VC ι F n (wpList P all Q (⟨some d, .call { callee := .builtin .append, args := #[x, y], argTypes := #[t, tx] }, ty, pos, aft, none⟩ :: rest)) ρ l := fun a w he hw =>
  wpList_plain rfl fun K hK => by
    have h1 : Holds ι w (sep (Sl E h xs) (sep (seps (del l i)) F)) := (hw.ent (Ent.sep (Ent.out hA) Ent.rfl)).ent Ent.assoc
    obtain ⟨h', w', hrun, hw'⟩ := run_appendE (P := P) (ty := ty) h1 (hv ι w (VC.chunk hw hB)) ht htx h63 hby
    unfold Oper.wp execOp
    simp only [resolve, invoke, builtin, Sem.run_bind, Sem.run_pure, Result.andThen_ok, List.map_toArray, List.map_cons, List.map_nil, he.eval hx, he.eval hy, hrun]
    exact hK _ _ (g h' _ _ (he.put d hd _) ((hw'.ent Ent.assoc').ent (Ent.sep (Ent.back hA) Ent.rfl)))
end
end Go.Eng
