/-
  The engine's rules for memory: blocks, slices with owned or shared arrays, loads, stores, what is made, calls.
-/
import Derived.Test.YtcpbibdbahfgaaaGreatEng3
set_option linter.unusedVariables false
set_option linter.unusedSimpArgs false
set_option autoImplicit false
namespace Go.Eng

/-- How an element lies in cells. -/
structure Enc (α : Type) where
  ty : TypeId
  sz : Nat
  f : α → List Value
  len : ∀ x, (f x).length = sz
  one : ∀ x, ∀ c ∈ f x, c.oneCell' = true
  pos : 0 < sz
def flat {α : Type} (E : Enc α) (xs : List α) : List Value := xs.flatMap E.f
section
variable {α : Type} (E : Enc α)
theorem flat_nil : flat E [] = [] := rfl
theorem flat_cons (x : α) (xs : List α) : flat E (x :: xs) = E.f x ++ flat E xs := rfl
theorem flat_append (xs ys : List α) : flat E (xs ++ ys) = flat E xs ++ flat E ys := by simp [flat]
theorem flat_length (xs : List α) : (flat E xs).length = xs.length * E.sz := by
  induction xs with
  | nil => simp [flat]
  | cons x xs ih => rw [flat_cons, List.length_append, ih, E.len, List.length_cons, Nat.add_mul]; omega
theorem flat_one (xs : List α) : ∀ c ∈ flat E xs, c.oneCell' = true := by
  intro c hc
  obtain ⟨x, _, h⟩ := List.mem_flatMap.1 hc
  exact E.one x c h
theorem flat_at {xs : List α} {j : Nat} {x : α} (h : xs[j]? = some x) {k : Nat} {c : Value} (hc : (E.f x)[k]? = some c) : (flat E xs)[j * E.sz + k]? = some c := by
  induction xs generalizing j with
  | nil => simp at h
  | cons y ys ih =>
    rw [flat_cons]
    cases j with
    | zero =>
      simp at h; subst h
      rw [Nat.zero_mul, Nat.zero_add, List.getElem?_append_left (List.getElem?_eq_some_iff.1 hc).1]; exact hc
    | succ j =>
      have hk : k < E.sz := by have := (List.getElem?_eq_some_iff.1 hc).1; rwa [E.len] at this
      rw [List.getElem?_append_right (by rw [E.len, Nat.add_mul]; omega), E.len]
      have : (j + 1) * E.sz + k - E.sz = j * E.sz + k := by rw [Nat.add_mul]; omega
      rw [this]; exact ih (by simpa using h)
theorem flat_take (xs : List α) (k : Nat) : flat E (xs.take k) = (flat E xs).take (k * E.sz) := by
  induction xs generalizing k with
  | nil => simp [flat]
  | cons x xs ih =>
    cases k with
    | zero => simp [flat]
    | succ k =>
      rw [List.take_succ_cons, flat_cons, flat_cons, ih]
      have : (k + 1) * E.sz = (E.f x).length + k * E.sz := by rw [E.len, Nat.add_mul]; omega
      rw [this, List.take_length_add_append]
theorem flat_drop (xs : List α) (k : Nat) : flat E (xs.drop k) = (flat E xs).drop (k * E.sz) := by
  induction xs generalizing k with
  | nil => simp [flat]
  | cons x xs ih =>
    cases k with
    | zero => simp [flat]
    | succ k =>
      rw [List.drop_succ_cons, flat_cons, ih]
      have : (k + 1) * E.sz = (E.f x).length + k * E.sz := by rw [E.len, Nat.add_mul]; omega
      rw [this, List.drop_length_add_append]
end

/-- A slice's value. -/
structure SH where
  a : Option Addr
  len : Nat
  cap : Nat
def SH.v (h : SH) : Value := .slice h.a h.len h.cap
def SH.blk (h : SH) : Nat := match h.a with | some a => a.block | none => 0
def SH.off (h : SH) : Nat := match h.a with | some a => a.off | none => 0
def nilS : SH := ⟨none, 0, 0⟩
def eAd (h : SH) (sz j k : Nat) : Addr := ⟨h.blk, h.off + j * sz + k, none⟩

/-- A slice with a known content, in a block of its own. -/
def Sl {α : Type} (E : Enc α) (h : SH) (xs : List α) : HP :=
  ⟨fun r x => h.len = xs.length ∧ ((xs = [] ∧ h.cap = 0) ∨ ∃ b pre post, h.a = some ⟨b, pre.length, none⟩ ∧ xs.length ≤ h.cap ∧ (h.cap - xs.length) * E.sz ≤ post.length ∧ (Pts b (pre ++ flat E xs ++ post) E.ty).P r x),
   fun hr hx ⟨h1, h2⟩ => ⟨h1, h2.imp id fun ⟨b, pre, post, a1, a2, a3, a4⟩ => ⟨b, pre, post, a1, a2, a3, (Pts b _ E.ty).mono hr hx a4⟩⟩⟩
/-- A slice with a known content that nobody writes any more. -/
def RoSl {α : Type} (E : Enc α) (h : SH) (xs : List α) : HP :=
  ⟨fun r x => h.len = xs.length ∧ ((xs = [] ∧ h.cap = 0) ∨ ∃ b pre post ty, h.a = some ⟨b, pre.length, none⟩ ∧ xs.length ≤ h.cap ∧ (Ro b (pre ++ flat E xs ++ post) ty).P r x),
   fun hr hx ⟨h1, h2⟩ => ⟨h1, h2.imp id fun ⟨b, pre, post, ty, a1, a2, a4⟩ => ⟨b, pre, post, ty, a1, a2, (Ro b _ ty).mono hr hx a4⟩⟩⟩
/-- What the world shows of a slice. -/
structure Rd {α : Type} (E : Enc α) (h : SH) (xs : List α) (w : World) : Prop where
  len : h.len = xs.length
  cap : xs.length ≤ h.cap
  adr : h.a = some ⟨h.blk, h.off, none⟩ ∨ (xs = [] ∧ h.cap = 0)
  cell : ∀ m c, (flat E xs)[m]? = some c → w.cell? ⟨h.blk, h.off + m, none⟩ = some c
def Vis (A : HP) (φ : World → Prop) : Prop := ∀ ι w, Holds ι w A → φ w
theorem Vis.imp {A : HP} {φ ψ : World → Prop} (h : Vis A φ) (i : ∀ w, φ w → ψ w) : Vis A ψ := fun ι w hh => i w (h ι w hh)
theorem Vis.ent {A B : HP} {φ : World → Prop} (h : Vis B φ) (e : Ent A B) : Vis A φ := fun ι w hh => h ι w (hh.ent e)
theorem cell_mid (w : World) (b : Nat) (pre mid post : List Value) (t : TypeId) (fr : Nat × Nat) (hb : w.heap[b]? = some (.cells (pre ++ mid ++ post).toArray t fr)) (m : Nat) (c : Value) (h : mid[m]? = some c) :
    w.cell? ⟨b, pre.length + m, none⟩ = some c := by
  rw [cell_of_row w b _ _ t fr hb]
  have hl := (List.getElem?_eq_some_iff.1 h).1
  simp only [List.getElem?_toArray]
  rw [List.append_assoc, List.getElem?_append_right (by omega), Nat.add_sub_cancel_left, List.getElem?_append_left hl]
  exact h
section
variable {α : Type} {E : Enc α} {h : SH} {xs : List α}
theorem Sl.vis : Vis (Sl E h xs) (Rd E h xs) := by
  rintro ι w ⟨_, _, r, x, s, h1, h2⟩
  rcases h2 with ⟨rfl, h3⟩ | ⟨b, pre, post, h2, h3, h4, h5⟩
  · exact ⟨h1, by simp, .inr ⟨rfl, h3⟩, fun m c hc => by simp [flat] at hc⟩
  · refine ⟨h1, h3, .inl (by simp [SH.blk, SH.off, h2]), fun m c hc => ?_⟩
    simp only [SH.blk, SH.off, h2]
    exact cell_mid w b pre _ post _ _ (s.rw _ _ h5) m c hc
theorem RoSl.vis : Vis (RoSl E h xs) (Rd E h xs) := by
  rintro ι w ⟨_, _, r, x, s, h1, h2⟩
  rcases h2 with ⟨rfl, h3⟩ | ⟨b, pre, post, t, h2, h3, fr, h5⟩
  · exact ⟨h1, by simp, .inr ⟨rfl, h3⟩, fun m c hc => by simp [flat] at hc⟩
  · refine ⟨h1, h3, .inl (by simp [SH.blk, SH.off, h2]), fun m c hc => ?_⟩
    simp only [SH.blk, SH.off, h2]
    exact cell_mid w b pre _ post _ _ (s.ro _ _ h5) m c hc
theorem Sl.nil : Ent emp (Sl E nilS []) := fun r x _ => ⟨rfl, .inl ⟨rfl, rfl⟩⟩
theorem RoSl.nil : Ent emp (RoSl E nilS []) := fun r x _ => ⟨rfl, .inl ⟨rfl, rfl⟩⟩
theorem RoSl.dup : Ent (RoSl E h xs) (sep (RoSl E h xs) (RoSl E h xs)) := fun r x hp =>
  ⟨x, fun _ => none, fun _ => .inl ⟨rfl, rfl⟩, hp, by
    obtain ⟨h1, h2⟩ := hp
    exact ⟨h1, h2⟩⟩
theorem Sl.share : VS (Sl E h xs) (RoSl E h xs) := by
  rintro ι w F ⟨g1, g2, r, x, s, x1, x2, hj, ⟨h1, h2⟩, hf⟩
  rcases h2 with h2 | ⟨b, pre, post, a1, a2, a3, a4⟩
  · exact ⟨g1, g2, r, x, s, x1, x2, hj, ⟨h1, .inl h2⟩, hf⟩
  · obtain ⟨k1, k2, r', x', s', y1, y2, hj', hp, hf'⟩ := VS.share ι w F ⟨g1, g2, r, x, s, x1, x2, hj, a4, hf⟩
    exact ⟨k1, k2, r', x', s', y1, y2, hj', ⟨h1, .inr ⟨b, pre, post, E.ty, a1, a2, hp⟩⟩, hf'⟩
theorem Sl.mk1 (b : Nat) (xs : List α) (cap : Nat) (post : List Value) (hc : xs.length ≤ cap) (hp : (cap - xs.length) * E.sz ≤ post.length) : Ent (Pts b (flat E xs ++ post) E.ty) (Sl E ⟨some ⟨b, 0, none⟩, xs.length, cap⟩ xs) :=
  fun r x h => ⟨rfl, .inr ⟨b, [], post, rfl, hc, hp, by simpa using h⟩⟩
end

section
variable {P : Program} {ι : Io} {F : HP} {n : Nat} {ρ : List (Nat × Value)} {l : List HP} {K : Act → World → Prop} {Q : Exit → Act → World → Prop} {all : Array Oper} {rest : List Oper}
variable {d : Nat} {ty : TypeId} {pos : String} {aft : Array Edge} {dst : Option Nat} {gd : Option (Nat × Bool)}

/-- Something that a chunk shows. -/
theorem vc_see (i : Nat) {A : HP} (hA : nth l i = some A) {p : Prop} (hp : Vis A (fun _ => p)) (h : p → VC ι F n K ρ l) : VC ι F n K ρ l := vc_fact i hA hp h

structure TyOne (P : Program) (t : TypeId) : Prop where
  und : ∃ d, P.underlying t = some d ∧ (match d with | .struct _ | .array _ _ => true | _ => false) = false
  size : (P.info? t).map (·.size) = some 1
structure TyAgg (P : Program) (t : TypeId) (s : Nat) : Prop where
  und : ∃ d, P.underlying t = some d ∧ (match d with | .struct _ | .array _ _ => true | _ => false) = true
  size : (P.info? t).map (·.size) = some s
structure TySl (P : Program) (t e : TypeId) (s : Nat) : Prop where
  und : P.underlying t = some (.slice e)
  size : (P.info? e).map (·.size) = some s
theorem run_sizeOf {t : TypeId} {s : Nat} (h : (P.info? t).map (·.size) = some s) (w : World) : (sizeOf t).run P w = .ok s w := by
  cases hq : P.info? t with
  | none => simp [hq] at h
  | some i => simp [hq] at h; simp [sizeOf, typeInfo, hq, h]
theorem run_isAgg1 {t : TypeId} (h : TyOne P t) (w : World) : (isAgg t).run P w = .ok false w := by
  obtain ⟨d, h1, h2⟩ := h.und
  unfold isAgg
  rw [Sem.run_bind, run_underlying h1 w]
  cases d <;> simp_all
theorem run_isAggA {t : TypeId} {s : Nat} (h : TyAgg P t s) (w : World) : (isAgg t).run P w = .ok true w := by
  obtain ⟨d, h1, h2⟩ := h.und
  unfold isAgg
  rw [Sem.run_bind, run_underlying h1 w]
  cases d <;> simp_all
theorem run_loadVar1 {t : TypeId} (h : TyOne P t) {w : World} {a : Addr} {c : Value} (hc : w.cell? a = some c) : (loadVar t a).run P w = .ok c w := by
  simp [loadVar, run_isAgg1 h, load, Sem.run, hc]
theorem run_loadVarA {t : TypeId} {cs : List Value} (h : TyAgg P t cs.length) {w : World} {a : Addr} (hc : ∀ j c, cs[j]? = some c → w.cell? (a.add j) = some c) : (loadVar t a).run P w = .ok (.agg cs.toArray) w := by
  simp [loadVar, run_isAggA h, run_sizeOf h.size, run_loadCells_list w a cs hc]
theorem add_lit (b o k : Nat) : (⟨b, o, none⟩ : Addr).add k = ⟨b, o + k, none⟩ := by unfold Addr.add; split <;> simp_all

theorem y_load1 (i : Nat) {A : HP} (hA : nth l i = some A) {t : TypeId} (ht : TyOne P t) {x : Operand} {ad : Addr} {c : Value} (hx : ev ρ x = some (.pointer (some ad))) (hc : Vis A (fun w => w.cell? ad = some c)) : Yld P ι F n ρ l ⟨dst, .load t x, ty, pos, aft, gd⟩ (c) := fun a w he hw => by simp [execOp, he.eval hx, Instr.loadAt, Instr.sureAddr, run_loadVar1 ht (hc ι w (VC.chunk hw hA))]
theorem y_loadA (i : Nat) {A : HP} (hA : nth l i = some A) {t : TypeId} {cs : List Value} (ht : TyAgg P t cs.length) {x : Operand} {ad : Addr} (hx : ev ρ x = some (.pointer (some ad)))
    (hc : Vis A (fun w => ∀ j c, cs[j]? = some c → w.cell? (ad.add j) = some c)) : Yld P ι F n ρ l ⟨dst, .load t x, ty, pos, aft, gd⟩ (.agg cs.toArray) := fun a w he hw => by simp [execOp, he.eval hx, Instr.loadAt, Instr.sureAddr, run_loadVarA ht (hc ι w (VC.chunk hw hA))]
theorem Pts.vis {b : Nat} {cs : List Value} {t : TypeId} {k : Nat} {c : Value} (h : nth cs k = some c) : Vis (Pts b cs t) (fun w => w.cell? ⟨b, k, none⟩ = some c) := fun ι w hh => by
  show w.cell? ⟨b, k, none⟩ = some c
  rw [cell_of_row w b k _ t _ hh.pts]; rw [nth_eq] at h; simpa using h
theorem Pts.visA {b : Nat} {cs cs' : List Value} {t : TypeId} {k : Nat} (h : (cs.drop k).take cs'.length = cs') : Vis (Pts b cs t) (fun w => ∀ j c, cs'[j]? = some c → w.cell? ((⟨b, k, none⟩ : Addr).add j) = some c) := fun ι w hh j c hj => by
  rw [add_lit, cell_of_row w b _ _ t _ hh.pts]
  rw [← h] at hj
  simp only [List.getElem?_toArray]
  rw [List.getElem?_take] at hj
  split at hj
  · rw [List.getElem?_drop] at hj; exact hj
  · cases hj
theorem Rd.vis1 {α : Type} {E : Enc α} {h : SH} {xs : List α} {A : HP} (hv : Vis A (Rd E h xs)) {j k : Nat} {x : α} {c : Value} (hj : xs[j]? = some x) (hc : nth (E.f x) k = some c) : Vis A (fun w => w.cell? (eAd h E.sz j k) = some c) :=
  hv.imp fun w hr => by
    rw [nth_eq] at hc
    have := hr.cell _ c (flat_at E hj hc)
    rwa [show h.off + (j * E.sz + k) = h.off + j * E.sz + k by omega] at this
theorem Rd.visA {α : Type} {E : Enc α} {h : SH} {xs : List α} {A : HP} (hv : Vis A (Rd E h xs)) {j k : Nat} {x : α} {cs : List Value} (hj : xs[j]? = some x) (hc : ((E.f x).drop k).take cs.length = cs) :
    Vis A (fun w => ∀ i c, cs[i]? = some c → w.cell? ((eAd h E.sz j k).add i) = some c) := hv.imp fun w hr i c hi => by
  unfold eAd
  rw [add_lit]
  rw [← hc, List.getElem?_take] at hi
  split at hi
  · rw [List.getElem?_drop] at hi
    have := hr.cell _ c (flat_at E hj hi)
    rwa [show h.off + (j * E.sz + (k + i)) = h.off + j * E.sz + k + i by omega] at this
  · cases hi
/-- The length of a slice. -/
theorem y_len {x : Operand} {t : TypeId} {h : SH} {m : Nat} {e : TypeId} (ht : P.underlying t = some (.slice e)) (hx : ev ρ x = some h.v) (hm : h.len = m) : Yld P ι F n ρ l ⟨dst, .call { callee := .builtin .len, args := #[x], argTypes := #[t] }, ty, pos, aft, gd⟩ (.int .i64 (m : Int)) := fun a' w he _ => by subst hm; simp [execOp, resolve, invoke, builtin, Builtin.len_, he.eval hx, SH.v, run_underlying ht, goInt]
theorem y_cap {x : Operand} {t : TypeId} {h : SH} {e : TypeId} (ht : P.underlying t = some (.slice e)) (hx : ev ρ x = some h.v) : Yld P ι F n ρ l ⟨dst, .call { callee := .builtin .cap, args := #[x], argTypes := #[t] }, ty, pos, aft, gd⟩ (.int .i64 (h.cap : Int)) := fun a' w he _ => by simp [execOp, resolve, invoke, builtin, Builtin.cap_, he.eval hx, SH.v, run_underlying ht, goInt]
/-- The address of an element. -/
theorem y_elem (i : Nat) {A : HP} (hA : nth l i = some A) {α : Type} {E : Enc α} {h : SH} {xs : List α} (hv : Vis A (Rd E h xs)) {x y : Operand} {t e : TypeId} {k : IntKind} {z : Int} (j : Nat) (hj : z = (j : Int)) (hlt : j < xs.length)
    (ht : TySl P t e E.sz) (hx : ev ρ x = some h.v) (hy : ev ρ y = some (.int k z)) : Yld P ι F n ρ l ⟨dst, .indexAddr t x y, ty, pos, aft, gd⟩ (.pointer (some (eAd h E.sz j 0))) := fun a w he hw => by
      have hr := hv ι w (VC.chunk hw hA)
      rcases hr.adr with ha | ⟨h0, _⟩
      · have hl : j < h.len := by rw [hr.len]; exact hlt
        subst hj
        have he1 : a.eval x = .slice (some ⟨h.blk, h.off, none⟩) h.len h.cap := by rw [he.eval hx]; unfold SH.v; rw [← ha]
        have hlc : (j : Int) < (h.len : Int) := by exact_mod_cast hl
        simp [execOp, he1, he.eval hy, Instr.indexAt, asIntOf, run_underlying ht.und, hl, run_sizeOf ht.size, add_lit, eAd]
      · rw [h0] at hlt; simp at hlt
structure Fld (P : Program) (s : TypeId) (f k : Nat) : Prop where
  ok : ∃ fs fld m, P.underlying s = some (.struct fs) ∧ fs[f]? = some fld ∧ fld.offset = k ∧ (P.info? fld.type).map (·.size) = some (m + 1)
theorem run_field {s : TypeId} {f k : Nat} (h : Fld P s f k) (a : Addr) (w : World) : (Instr.fieldAt s (.pointer (some a)) f).run P w = .ok (.pointer (some (a.add k))) w := by
  obtain ⟨fs, fld, m, h1, h2, h3, h4⟩ := h.ok
  subst h3
  simp [Instr.fieldAt, run_underlying h1, h2, Instr.sureAddr, fieldPlace, run_sizeOf h4]
theorem y_fieldP {s : TypeId} {f k : Nat} (hf : Fld P s f k) {x : Operand} {b o : Nat} (o' : Nat) (ho : o + k = o') (hx : ev ρ x = some (.pointer (some ⟨b, o, none⟩))) : Yld P ι F n ρ l ⟨dst, .fieldAddr s x f, ty, pos, aft, gd⟩ (.pointer (some ⟨b, o', none⟩)) := fun a w he hw => by subst ho; simp [execOp, he.eval hx, run_field hf, add_lit]
theorem y_fieldE {s : TypeId} {f k : Nat} (hf : Fld P s f k) {x : Operand} {h : SH} {sz j o : Nat} (o' : Nat) (ho : o + k = o') (hx : ev ρ x = some (.pointer (some (eAd h sz j o)))) : Yld P ι F n ρ l ⟨dst, .fieldAddr s x f, ty, pos, aft, gd⟩ (.pointer (some (eAd h sz j o'))) := fun a w he hw => by subst ho; simp [execOp, he.eval hx, run_field hf, eAd, add_lit, Nat.add_assoc]

theorem y_fieldG {s : TypeId} {f k : Nat} (hf : Fld P s f k) {x : Operand} {ad : Addr} (hx : ev ρ x = some (.pointer (some ad))) : Yld P ι F n ρ l ⟨dst, .fieldAddr s x f, ty, pos, aft, gd⟩ (.pointer (some (ad.add k))) := fun a w he hw => by simp [execOp, he.eval hx, run_field hf]

/-! ### Stores -/
def splice (cs : List Value) (k : Nat) (vs : List Value) : List Value := cs.take k ++ vs ++ cs.drop (k + vs.length)
theorem run_storeVar_at {t : TypeId} {w : World} {b o : Nat} {cs : List Value} {e : TypeId} (hb : w.heap[b]? = some (.cells cs.toArray e (0, 0))) {v : Value} {vs : List Value} (hv : v.cells = vs.toArray) (hs : (P.info? t).map (·.size) = some vs.length)
    (h1 : ∀ c ∈ vs, c.oneCell' = true) (hfit : o + vs.length ≤ cs.length) : (storeVar t ⟨b, o, none⟩ v).run P w = .ok () (w.setRow b (splice cs o vs).toArray) := by
  have := run_storeCells_at P b o e vs 0 cs.toArray w hb (by simpa using hfit) h1
  simp only [Nat.add_zero] at this
  simp [storeVar, run_sizeOf hs, hv, this, splice]
/-- An operation of no value that sets a row of a block anew. -/
theorem all_one {vs : List Value} (h : vs.all (fun c => c.oneCell') = true) : ∀ c ∈ vs, c.oneCell' = true := by simpa using h
theorem vc_storeP (i : Nat) {b : Nat} {cs : List Value} {e : TypeId} (hA : nth l i = some (Pts b cs e)) {t : TypeId} {x y : Operand} {o : Nat} {v : Value} (vs cs' : List Value) (hx : ev ρ x = some (.pointer (some ⟨b, o, none⟩))) (hy : ev ρ y = some v) (hv : v.cells = vs.toArray)
      (hs : (P.info? t).map (·.size) = some vs.length) (h1 : vs.all (fun c => c.oneCell') = true) (hfit : Nat.ble (o + vs.length) cs.length = true) (hc : splice cs o vs = cs')
    (h : VC ι F n (wpList P all Q rest) ρ (put l i (Pts b cs' e))) : VC ι F n (wpList P all Q (⟨none, .store t x y, ty, pos, aft, none⟩ :: rest)) ρ l := fun a w he hw =>
  wpList_plain rfl fun K hK => by
    have h1' : Holds ι w (sep (Pts b cs e) (sep (seps (del l i)) F)) := (hw.ent (Ent.sep (Ent.out hA) Ent.rfl)).ent Ent.assoc
    have hr := run_storeVar_at (P := P) (t := t) (h1'.ent Ent.left).pts hv hs (all_one h1) (Nat.le_of_ble_eq_true hfit)
    unfold Oper.wp
    simp only [execOp, he.eval hx, he.eval hy, Instr.storeAt, Instr.sureAddr, Sem.run_bind, Sem.run_pure, Result.andThen_ok, hr]
    refine hK _ _ (h _ _ (he.put0 _) ?_)
    subst hc
    exact ((h1'.set (splice cs o vs)).ent Ent.assoc').ent (Ent.sep (Ent.back hA) Ent.rfl)
theorem list_set_flat {α : Type} (E : Enc α) {xs : List α} {j : Nat} {x x' : α} (hj : xs[j]? = some x) {k : Nat} {vs : List Value} (hx : splice (E.f x) k vs = E.f x') (hk : k + vs.length ≤ E.sz) (pre post : List Value) :
    splice (pre ++ flat E xs ++ post) (pre.length + j * E.sz + k) vs = pre ++ flat E (xs.set j x') ++ post := by
  have hlt := (List.getElem?_eq_some_iff.1 hj).1
  have hsp : xs = xs.take j ++ x :: xs.drop (j + 1) := by
    rw [← (List.getElem?_eq_some_iff.1 hj).2]; simp
  have hset : xs.set j x' = xs.take j ++ x' :: xs.drop (j + 1) := by
    rw [List.set_eq_take_append_cons_drop, if_pos hlt]
  rw [hset, hsp]
  have hl : (flat E (xs.take j)).length = j * E.sz := by rw [flat_length, List.length_take]; congr 1; omega
  have htake : (List.take j (xs.take j ++ x :: xs.drop (j + 1))) = xs.take j := by
    rw [← hsp]
  have hdrop : (List.drop (j + 1) (xs.take j ++ x :: xs.drop (j + 1))) = xs.drop (j + 1) := by rw [← hsp]
  rw [htake, hdrop]
  simp only [flat_append, flat_cons]
  rw [← hx]
  generalize hA : flat E (xs.take j) = A at *
  generalize flat E (xs.drop (j + 1)) = B
  have hfx : (E.f x).length = E.sz := E.len x
  generalize E.f x = X at *
  unfold splice
  have e1 : pre.length + j * E.sz + k = (pre ++ A).length + k := by simp [hl]
  rw [e1]
  have e2 : (pre ++ (A ++ (X ++ B)) ++ post) = (pre ++ A) ++ (X ++ (B ++ post)) := by simp
  rw [e2, List.take_length_add_append, Nat.add_assoc, List.drop_length_add_append, List.take_append_of_le_length (by omega), List.drop_append_of_le_length (by omega)]
  simp
theorem vc_storeE (i : Nat) {α : Type} {E : Enc α} {h : SH} {xs : List α} (hA : nth l i = some (Sl E h xs)) {t : TypeId} {x y : Operand} {j k : Nat} {v : Value} {z : α} (vs : List Value) (z' : α) (hx : ev ρ x = some (.pointer (some (eAd h E.sz j k)))) (hy : ev ρ y = some v) (hv : v.cells = vs.toArray)
      (hs : (P.info? t).map (·.size) = some vs.length) (h1 : vs.all (fun c => c.oneCell') = true) (hj : xs[j]? = some z) (hfit : k + vs.length ≤ E.sz) (hc : splice (E.f z) k vs = E.f z')
    (g : VC ι F n (wpList P all Q rest) ρ (put l i (Sl E h (xs.set j z')))) : VC ι F n (wpList P all Q (⟨none, .store t x y, ty, pos, aft, none⟩ :: rest)) ρ l := fun a w he hw =>
  wpList_plain rfl fun K hK => by
    obtain ⟨g1, g2, r, x0, s, x1, x2, hjn, ⟨hl, hh⟩, hf⟩ : Holds ι w (sep (Sl E h xs) (sep (seps (del l i)) F)) := (hw.ent (Ent.sep (Ent.out hA) Ent.rfl)).ent Ent.assoc
    have hlt := (List.getElem?_eq_some_iff.1 hj).1
    rcases hh with ⟨h0, _⟩ | ⟨b, pre, post, a1, a2, a3, a4⟩
    · rw [h0] at hlt; simp at hlt
    · have hP : Holds ι w (sep (Pts b (pre ++ flat E xs ++ post) E.ty) (sep (seps (del l i)) F)) := ⟨g1, g2, r, x0, s, x1, x2, hjn, a4, hf⟩
      have hblk : h.blk = b := by simp [SH.blk, a1]
      have hoff : h.off = pre.length := by simp [SH.off, a1]
      have hbound : j * E.sz + E.sz ≤ xs.length * E.sz := by
        have := Nat.mul_le_mul_right E.sz (show j + 1 ≤ xs.length by omega)
        rwa [Nat.add_mul, Nat.one_mul] at this
      have hr := run_storeVar_at (P := P) (t := t) (o := pre.length + j * E.sz + k) (hP.ent Ent.left).pts hv hs (all_one h1) (by simp [flat_length]; omega)
      unfold Oper.wp
      simp only [execOp, he.eval hx, he.eval hy, Instr.storeAt, Instr.sureAddr, Sem.run_bind, Sem.run_pure, Result.andThen_ok, eAd, hblk, hoff, hr]
      refine hK _ _ (g _ _ (he.put0 _) ?_)
      rw [list_set_flat E hj hc hfit]
      have h2 := (hP.set (pre ++ flat E (xs.set j z') ++ post))
      refine (((h2.ent (Ent.sep (B := sep (seps (del l i)) F) ?_ Ent.rfl)).ent Ent.assoc').ent (Ent.sep (Ent.back hA) Ent.rfl))
      exact fun r x hp => ⟨by simp [hl], .inr ⟨b, pre, post, a1, by simpa using a2, by simpa using a3, hp⟩⟩

/-! ### What is made -/
theorem vc_alloc {t : TypeId} {z : Value} (cs : List Value) (hz : (P.info? t).map (·.zero) = some (some z)) (hc : z.cells = cs.toArray) (hd : Nat.blt d n = true)
    (h : ∀ b, VC ι F n (wpList P all Q rest) ((d, .pointer (some ⟨b, 0, none⟩)) :: ρ) (Pts b cs t :: l)) : VC ι F n (wpList P all Q (⟨some d, .alloc t, ty, pos, aft, none⟩ :: rest)) ρ l := fun a w he hw =>
  wpList_plain rfl fun K hK => by
    have hr : (execOp a.eval ⟨some d, .alloc t, ty, pos, aft, none⟩).run P w = .ok (.value (.pointer (some ⟨w.heap.size, 0, none⟩))) { w with heap := w.heap.push (.cells cs.toArray t (0, 0)) } := by
      cases hq : P.info? t with
      | none => simp [hq] at hz
      | some i => simp [hq] at hz; simp [execOp, Instr.alloc, zeroValue, typeInfo, hq, hz, newVar, newRow, newObj, Sem.run, hc]
    unfold Oper.wp
    rw [hr]
    exact hK _ _ (h w.heap.size _ _ (he.put d hd _) ((hw.new cs t).ent Ent.assoc'))
theorem vc_box {t : TypeId} {x : Operand} {v : Value} (cs : List Value) (hx : ev ρ x = some v) (hc : v.cells = cs.toArray) (hd : Nat.blt d n = true)
    (h : ∀ b, VC ι F n (wpList P all Q rest) ((d, .pointer (some ⟨b, 0, none⟩)) :: ρ) (Pts b cs t :: l)) : VC ι F n (wpList P all Q (⟨some d, .box t x, ty, pos, aft, none⟩ :: rest)) ρ l := fun a w he hw =>
  wpList_plain rfl fun K hK => by
    have hr : (execOp a.eval ⟨some d, .box t x, ty, pos, aft, none⟩).run P w = .ok (.value (.pointer (some ⟨w.heap.size, 0, none⟩))) { w with heap := w.heap.push (.cells cs.toArray t (0, 0)) } := by
      simp [execOp, Instr.box, newVar, newRow, newObj, Sem.run, hc, he.eval hx]
    unfold Oper.wp
    rw [hr]
    exact hK _ _ (h w.heap.size _ _ (he.put d hd _) ((hw.new cs t).ent Ent.assoc'))
theorem y_build {t : TypeId} {ps : Array (Nat × Operand)} (qs : List (Nat × Value)) (cs : List Value) (hp : ps.toList.map (fun p => (p.1, ev ρ p.2)) = qs.map (fun p => (p.1, some p.2)))
    (hb : ∀ w, (Instr.build t qs.toArray).run P w = .ok (.agg cs.toArray) w) : Yld P ι F n ρ l ⟨dst, .build t ps, ty, pos, aft, gd⟩ (.agg cs.toArray) := fun a w he hw => by
      have aux : ∀ (ps : List (Nat × Operand)) (qs : List (Nat × Value)), ps.map (fun p => (p.1, ev ρ p.2)) = qs.map (fun p => (p.1, some p.2)) → ps.map (fun p => (p.1, a.eval p.2)) = qs := by
        intro ps
        induction ps with
        | nil => intro qs h; cases qs <;> simp_all
        | cons p ps ih => intro qs h; cases qs with
          | nil => simp at h
          | cons q qs => obtain ⟨q1, q2⟩ := q; simp at h; obtain ⟨⟨h1, h2⟩, h3⟩ := h; simp [h1, he.eval h2, ih qs h3]
      have e : ps.map (fun p => (p.1, a.eval p.2)) = qs.toArray := by apply Array.ext'; simp [aux _ _ hp]
      have e' : (ps.map fun x => match x with | (i, x) => (i, a.eval x)) = qs.toArray := e
      simp only [execOp, e', Sem.run_bind, hb, Result.andThen_ok]; rfl
/-- A new slice of known elements. -/
theorem vc_buildSlice {α : Type} {E : Enc α} {t : TypeId} {ps : Array (Nat × Operand)} {m : Nat} (qs : List (Nat × Value)) (xs : List α) (hm : xs.length = m) (hp : ps.toList.map (fun p => (p.1, ev ρ p.2)) = qs.map (fun p => (p.1, some p.2)))
    (hb : ∀ w, (Instr.buildSlice t m qs.toArray).run P w = .ok (.slice (some ⟨w.heap.size, 0, none⟩) m m) { w with heap := w.heap.push (.cells (flat E xs).toArray E.ty (0, 0)) }) (hd : Nat.blt d n = true)
    (h : ∀ h : SH, VC ι F n (wpList P all Q rest) ((d, h.v) :: ρ) (Sl E h xs :: l)) : VC ι F n (wpList P all Q (⟨some d, .buildSlice t m ps, ty, pos, aft, none⟩ :: rest)) ρ l := fun a w he hw =>
  wpList_plain rfl fun K hK => by
    have aux : ∀ (ps : List (Nat × Operand)) (qs : List (Nat × Value)), ps.map (fun p => (p.1, ev ρ p.2)) = qs.map (fun p => (p.1, some p.2)) → ps.map (fun p => (p.1, a.eval p.2)) = qs := by
        intro ps
        induction ps with
        | nil => intro qs h; cases qs <;> simp_all
        | cons p ps ih => intro qs h; cases qs with
          | nil => simp at h
          | cons q qs => obtain ⟨q1, q2⟩ := q; simp at h; obtain ⟨⟨h1, h2⟩, h3⟩ := h; simp [h1, he.eval h2, ih qs h3]
    have e : ps.map (fun p => (p.1, a.eval p.2)) = qs.toArray := by apply Array.ext'; simp [aux _ _ hp]
    have e' : (ps.map fun x => match x with | (i, x) => (i, a.eval x)) = qs.toArray := e
    have hr : (execOp a.eval ⟨some d, .buildSlice t m ps, ty, pos, aft, none⟩).run P w = .ok (.value (.slice (some ⟨w.heap.size, 0, none⟩) m m)) { w with heap := w.heap.push (.cells (flat E xs).toArray E.ty (0, 0)) } := by
      simp only [execOp, e', Sem.run_bind, hb, Result.andThen_ok]; rfl
    unfold Oper.wp
    rw [hr]
    subst hm
    refine hK _ _ (h ⟨some ⟨w.heap.size, 0, none⟩, xs.length, xs.length⟩ _ _ (he.put d hd _) (((hw.new (flat E xs) E.ty).ent Ent.assoc').ent (Ent.sep (Ent.sep ?_ Ent.rfl) Ent.rfl)))
    have := Sl.mk1 (E := E) w.heap.size xs xs.length [] (Nat.le_refl _) (by simp)
    simpa using this

theorem run_build {t : TypeId} {z : Value} {fs : Array Field} {ps : List (Nat × Value)} {cs : Array Value} {pl : List (Nat × Nat)} (hz : (P.info? t).map (·.zero) = some (some z)) (hu : P.underlying t = some (.struct fs))
    (hp : (fs.toList.map fun f => (P.info? f.type).map fun i => (f.offset, i.size)) = pl.map some) (hz' : z.cells = z.cells) (hf : Instr.fill (pl.toArray[·]?) z.cells ps = some cs) (w : World) : (Instr.build t ps.toArray).run P w = .ok (.agg cs) w := by
  have hzv : (zeroValue t).run P w = .ok z w := by
    cases hq : P.info? t with
    | none => simp [hq] at hz
    | some i => simp [hq] at hz; simp [zeroValue, typeInfo, hq, hz]
  have key : ∀ (l : List Field) (p : List (Nat × Nat)), (l.map fun f => (P.info? f.type).map fun i => (f.offset, i.size)) = p.map some → (l.mapM fun f => (do Pure.pure (f.offset, ← sizeOf f.type) : Sem (Nat × Nat))).run P w = .ok p w := by
    intro l
    induction l with
    | nil => intro p h; cases p <;> simp_all
    | cons f l ih =>
      intro p h
      cases p with
      | nil => simp at h
      | cons q p =>
        simp only [List.map_cons, List.cons.injEq] at h
        have h2 := ih p h.2
        have h1 : (sizeOf f.type).run P w = .ok q.2 w ∧ f.offset = q.1 := by
          cases hq : P.info? f.type with
          | none => simp [hq] at h
          | some i => simp [hq] at h; constructor
                      · simp [sizeOf, typeInfo, hq, ← h.1]
                      · simp [← h.1]
        obtain ⟨q1, q2⟩ := q
        simp only [List.mapM_cons, Sem.run_bind, h1.1, Result.andThen_ok, h2, Sem.run_pure, h1.2]
  have hm : (fs.mapM fun f => (do Pure.pure (f.offset, ← sizeOf f.type) : Sem (Nat × Nat))).run P w = .ok pl.toArray w := by
    rw [Array.mapM_eq_mapM_toList]
    simp only [map_eq_pure_bind, Sem.run_bind, key fs.toList pl hp, Result.andThen_ok, Sem.run_pure]
  simp only [Instr.build, Sem.run_bind, hzv, Result.andThen_ok, run_underlying hu, hm]
  rw [hf]
  rfl
theorem run_buildSlice {t e : TypeId} {z : Value} {s m : Nat} {ps : List (Nat × Value)} {cs : Array Value} (hu : P.underlying t = some (.slice e)) (hs : (P.info? e).map (·.size) = some s) (hz : (P.info? e).map (·.zero) = some (some z)) (hm : m * s ≤ 2 ^ 24)
    (hf : Instr.fill (fun i => some (i * s, s)) ((Array.range (m * s)).map ((if m * s = 0 then #[] else z.cells)[· % (if m * s = 0 then #[] else z.cells).size]!)) ps = some cs) (w : World) :
    (Instr.buildSlice t m ps.toArray).run P w = .ok (.slice (some ⟨w.heap.size, 0, none⟩) m m) { w with heap := w.heap.push (.cells cs e (0, 0)) } := by
  have hzv : (zeroValue e).run P w = .ok z w := by
    cases hq : P.info? e with
    | none => simp [hq] at hz
    | some i => simp [hq] at hz; simp [zeroValue, typeInfo, hq, hz]
  have hm' : ¬ (m * s > 2 ^ 24) := by omega
  by_cases h0 : m * s = 0
  · simp only [h0, if_true] at hf
    simp [Instr.buildSlice, run_underlying hu, run_sizeOf hs, h0, newRow, newObj, Sem.run]
    simp at hf
    rw [hf]
    rfl
  · simp only [h0, if_false] at hf
    simp only [Instr.buildSlice, Sem.run_bind, run_underlying hu, run_sizeOf hs, Result.andThen_ok, hm', h0, if_false, hzv, Sem.run_pure]
    rw [hf]
    simp [newRow, newObj, Sem.run]

/-! ### Calls -/
/-- What a call of a function does: from these chunks, whatever else there is, it comes back with a value and other chunks; the rest stays. -/
def Does (P : Program) (f : FuncId) (args : List Value) (pre : List HP) (Post : Value → List HP → Prop) : Prop :=
  ∀ ι F w, Holds ι w (sep (seps pre) F) → Calls P f args.toArray w fun e w' => ∃ v l', Post v l' ∧ e = .returned v ∧ Holds ι w' (sep (seps l') F)
theorem Does.imp {f : FuncId} {args : List Value} {pre : List HP} {Post Post' : Value → List HP → Prop} (h : Does P f args pre Post) (i : ∀ v l, Post v l → Post' v l) : Does P f args pre Post' :=
  fun ι F w hw => (h ι F w hw).mono fun _ _ ⟨v, l', hp, e, hw'⟩ => ⟨v, l', i v l' hp, e, hw'⟩
theorem Does.many {f : FuncId} {args : List Value} {pre : List HP} {R : Value → Prop} (h : Does P f args [seps pre] (fun v l => R v ∧ l = [seps pre])) : Does P f args pre (fun v l => R v ∧ l = pre) := fun ι F w hw =>
  (h ι F w (hw.ent (Ent.sep (Ent.empL.trans Ent.comm) Ent.rfl))).mono fun _ _ ⟨v, l', ⟨hr, hl⟩, e, hw'⟩ => ⟨v, pre, ⟨hr, rfl⟩, e, by subst hl; exact hw'.ent (Ent.sep Ent.left Ent.rfl)⟩
theorem Vis.at {φ : World → Prop} {l : List HP} {A : HP} (i : Nat) (hA : nth l i = some A) (h : Vis A φ) : Vis (seps l) φ := h.ent ((Ent.out hA).trans Ent.left)
/-- May it be called? -/
structure Callable (P : Program) (f : FuncId) : Prop where
  ok : ∃ fn c, P.funcs[f]? = some fn ∧ fn.body = some c ∧ (fn.name == "runtime.NumGoroutine") = false
theorem run_callFunc {f : FuncId} (h : Callable P f) (args : Array Value) (w : World) : (callFunc f args).run P w = .ok (.enter f args) w := by
  obtain ⟨fn, c, h1, h2, h3⟩ := h.ok
  have h3' : ¬ (fn.name = "runtime.NumGoroutine") := by simpa using h3
  simp [callFunc, program, Sem.run, h1, h2, h3']
theorem vc_call {dst : Option Nat} {f : FuncId} (hf : Callable P f) {xs : Array Operand} {ats : Array TypeId} {c : Operand} {us vs : List Value} (hc : ev ρ c = some (.func (.func f) us.toArray vs.toArray)) (args : List Value) (hargs : xs.toList.map (ev ρ) = args.map some) (is : List Nat) {pre r : List HP} (hpick : pick is l = some (pre, r))
    {Post : Value → List HP → Prop} (spec : Does P f (us ++ args ++ vs) pre Post) (hd : okO n dst = true)
    (h : ∀ v l', Post v l' → VC ι F n (wpList P all Q rest) (putO dst v ρ) (l' ++ r)) :
    VC ι F n (wpList P all Q (⟨dst, .call { callee := .value c, args := xs, argTypes := ats }, ty, pos, aft, none⟩ :: rest)) ρ l := fun a w he hw =>
  wpList_plain rfl fun K hK => by
    have aux : ∀ (xs : List Operand) (us : List Value), xs.map (ev ρ) = us.map some → xs.map a.eval = us := by
      intro xs
      induction xs with
      | nil => intro us h; cases us <;> simp_all
      | cons x xs ih => intro us h; cases us with
        | nil => simp at h
        | cons u us => simp at h; simp [he.eval h.1, ih us h.2]
    have e : xs.map a.eval = args.toArray := by apply Array.ext'; simp [aux _ _ hargs]
    have hr : (execOp a.eval ⟨dst, .call { callee := .value c, args := xs, argTypes := ats }, ty, pos, aft, none⟩).run P w = .ok (.enter f (us ++ args ++ vs).toArray) w := by
      simp only [execOp, resolve, e, he.eval hc, Deferred.ofValue, invoke, Sem.run_bind, Sem.run_pure, Result.andThen_ok, run_callFunc hf]
      congr 2
      apply Array.ext'
      simp
    unfold Oper.wp
    rw [hr, Oper.upon_enter]
    have h1 : Holds ι w (sep (seps pre) (sep (seps r) F)) := (hw.ent (Ent.sep (Ent.pick hpick) Ent.rfl)).ent Ent.assoc
    refine (spec ι (sep (seps r) F) w h1).mono ?_
    rintro e' w' ⟨v, l', hp, rfl, hw'⟩
    exact hK _ _ (h v l' hp _ _ (he.putO dst hd v) ((hw'.ent Ent.assoc').ent (Ent.sep Ent.append' Ent.rfl)))
theorem vc_callv {f : FuncId} (hf : Callable P f) {xs : Array Operand} {ats : Array TypeId} {c : Operand} {us vs : List Value} (hc : ev ρ c = some (.func (.func f) us.toArray vs.toArray)) (args : List Value) (hargs : xs.toList.map (ev ρ) = args.map some) (is : List Nat) {pre r : List HP} (hpick : pick is l = some (pre, r))
    {Post : Value → List HP → Prop} (spec : Does P f (us ++ args ++ vs) pre Post) (hd : Nat.blt d n = true)
    (h : ∀ v l', Post v l' → VC ι F n (wpList P all Q rest) ((d, v) :: ρ) (l' ++ r)) :
    VC ι F n (wpList P all Q (⟨some d, .call { callee := .value c, args := xs, argTypes := ats }, ty, pos, aft, none⟩ :: rest)) ρ l :=
  vc_call hf hc args hargs is hpick spec (dst := some d) hd h
theorem vc_calln {f : FuncId} (hf : Callable P f) {xs : Array Operand} {ats : Array TypeId} {c : Operand} {us vs : List Value} (hc : ev ρ c = some (.func (.func f) us.toArray vs.toArray)) (args : List Value) (hargs : xs.toList.map (ev ρ) = args.map some) (is : List Nat) {pre r : List HP} (hpick : pick is l = some (pre, r))
    {Post : Value → List HP → Prop} (spec : Does P f (us ++ args ++ vs) pre Post)
    (h : ∀ v l', Post v l' → VC ι F n (wpList P all Q rest) ρ (l' ++ r)) :
    VC ι F n (wpList P all Q (⟨none, .call { callee := .value c, args := xs, argTypes := ats }, ty, pos, aft, none⟩ :: rest)) ρ l :=
  vc_call hf hc args hargs is hpick spec (dst := none) rfl h
/-- The body of a function. -/
theorem spec_of {f : FuncId} {fn : Func} {c : Code} (hf : P.funcs[f]? = some fn) (hb : fn.body = some c) {m : Nat} (hm : fn.ntmps = m) {rs : Array ResultVar} (hrs : fn.results = rs) (args : List Value) (ha : args.length ≤ m) {pre : List HP} {Post : Value → List HP → Prop}
    (h : ∀ ι F, VC ι F m (c.wp P (bodyPost P fn (fun e w' => ∃ v l', Post v l' ∧ e = .returned v ∧ Holds ι w' (sep (seps l') F)))) (args.zipIdx.map fun p => (p.2, p.1)) pre) : Does P f args pre Post := by
  intro ι F w hw
  refine calls_of_wp hf hb (h ι F _ _ ⟨rfl, ?_, ?_⟩ hw)
  · simp [hm]; omega
  · intro t v hv
    have : ∀ (l : List Value) (k t : Nat) (v : Value), lk ((l.zipIdx k).map fun p => (p.2, p.1)) t = some v → k ≤ t ∧ l[t - k]? = some v := by
      intro l
      induction l with
      | nil => intro k t v h; simp [lk] at h
      | cons u l ih =>
        intro k t v h
        simp only [List.zipIdx_cons, List.map_cons, lk] at h
        cases hb : Nat.beq k t with
        | true =>
          rw [hb] at h
          have := Nat.eq_of_beq_eq_true hb
          subst this
          simp at h; subst h; simp
        | false =>
          rw [hb] at h
          have hne : k ≠ t := fun e => by subst e; simp at hb
          have h2 := ih (k + 1) t v h
          refine ⟨by omega, ?_⟩
          rw [show t - k = (t - (k + 1)) + 1 by omega]
          simpa using h2.2
    have h2 := (this args 0 t v hv).2
    simp only [Nat.sub_zero] at h2
    have hlt := (List.getElem?_eq_some_iff.1 h2).1
    rw [Array.getElem?_append_left (by simpa using hlt)]
    simpa using h2
/-- The end of a body: what it hands back. -/
theorem vc_end0 {fn : Func} (hrs : fn.results = #[]) {Post : Value → List HP → Prop} (l' : List HP) (hl : Ent (seps l) (seps l')) (h : Post (.tuple #[]) l') :
    VC ι F n (bodyPost P fn (fun e w' => ∃ v l', Post v l' ∧ e = .returned v ∧ Holds ι w' (sep (seps l') F)) .ret) ρ l := fun a w he hw =>
  ⟨he.defers, .tuple #[], by simp [results, hrs, noResult], _, l', h, rfl, hw.ent (Ent.sep hl Ent.rfl)⟩
theorem vc_end1 {fn : Func} {t : Nat} (hrs : fn.results = #[.tmp t]) {v : Value} (hv : lk ρ t = some v) {Post : Value → List HP → Prop} (l' : List HP) (hl : Ent (seps l) (seps l')) (h : Post v l') :
    VC ι F n (bodyPost P fn (fun e w' => ∃ v l', Post v l' ∧ e = .returned v ∧ Holds ι w' (sep (seps l') F)) .ret) ρ l := fun a w he hw =>
  ⟨he.defers, v, by simp [results, hrs, he.val _ _ hv], _, l', h, rfl, hw.ent (Ent.sep hl Ent.rfl)⟩
theorem vc_end2 {fn : Func} {t t' : Nat} (hrs : fn.results = #[.tmp t, .tmp t']) {v v' : Value} (hv : lk ρ t = some v) (hv' : lk ρ t' = some v') {Post : Value → List HP → Prop} (l' : List HP) (hl : Ent (seps l) (seps l')) (h : Post (.tuple #[v, v']) l') :
    VC ι F n (bodyPost P fn (fun e w' => ∃ v l', Post v l' ∧ e = .returned v ∧ Holds ι w' (sep (seps l') F)) .ret) ρ l := fun a w he hw =>
  ⟨he.defers, _, by simp [results, hrs, he.val _ _ hv, he.val _ _ hv'], _, l', h, rfl, hw.ent (Ent.sep hl Ent.rfl)⟩
theorem vc_end3 {fn : Func} {t t' t'' : Nat} (hrs : fn.results = #[.tmp t, .tmp t', .tmp t'']) {v v' v'' : Value} (hv : lk ρ t = some v) (hv' : lk ρ t' = some v') (hv'' : lk ρ t'' = some v'') {Post : Value → List HP → Prop} (l' : List HP) (hl : Ent (seps l) (seps l')) (h : Post (.tuple #[v, v', v'']) l') :
    VC ι F n (bodyPost P fn (fun e w' => ∃ v l', Post v l' ∧ e = .returned v ∧ Holds ι w' (sep (seps l') F)) .ret) ρ l := fun a w he hw =>
  ⟨he.defers, _, by simp [results, hrs, he.val _ _ hv, he.val _ _ hv', he.val _ _ hv''], _, l', h, rfl, hw.ent (Ent.sep hl Ent.rfl)⟩
theorem vc_end0n {P : Program} {ι : Io} {F : HP} {n : Nat} {ρ : List (Nat × Value)} {l : List HP} {fn : Func} (hrs : fn.results = #[]) {Post : Value → List HP → Prop} (l' : List HP) (hl : Ent (seps l) (seps l')) (h : Post (.tuple #[]) l') :
    VC ι F n (bodyPost P fn (fun e w' => ∃ v l', Post v l' ∧ e = .returned v ∧ Holds ι w' (sep (seps l') F)) .normal) ρ l := fun a w he hw =>
  ⟨he.defers, .tuple #[], by simp [results, hrs, noResult], _, l', h, rfl, hw.ent (Ent.sep hl Ent.rfl)⟩
theorem sl_new {α : Type} {E : Enc α} {l : List HP} : Ent (seps l) (seps (Sl E nilS [] :: l)) := Ent.empL.trans (Ent.sep Sl.nil Ent.rfl)
theorem ent_pick {l s r : List HP} (is : List Nat) (h : pick is l = some (s, r)) : Ent (seps l) (seps s) := (Ent.pick h).trans Ent.left
end
end Go.Eng
