/-
  The engine's rules for arrays seen cell by cell: copy, clear, append where there is room, append of noughts, two slices that don't overlap.
-/
import Derived.Test.YtcpbibdbahfgaaaGreatEng6
import GoSem.Extern.SlicesOverlaps
import Derived.Lib.Overlaps
set_option linter.unusedVariables false
set_option linter.unusedSimpArgs false
set_option autoImplicit false
namespace Go.Eng
section
variable {P : Program} {ι : Io} {F : HP} {n : Nat} {ρ : List (Nat × Value)} {l : List HP} {K : Act → World → Prop} {Q : Exit → Act → World → Prop} {all : Array Oper} {rest : List Oper}
variable {d : Nat} {ty : TypeId} {pos : String} {aft : Array Edge} {dst : Option Nat} {gd : Option (Nat × Bool)}
/-- A slice's own block, opened. -/
theorem vc_open (i : Nat) {α : Type} {E : Enc α} {h : SH} {xs : List α} (hA : nth l i = some (Sl E h xs)) (hc : 0 < h.cap)
    (g : ∀ b pre post, h = ⟨some ⟨b, pre.length, none⟩, xs.length, h.cap⟩ → xs.length ≤ h.cap → (h.cap - xs.length) * E.sz ≤ post.length → VC ι F n K ρ (put l i (Pts b (pre ++ flat E xs ++ post) E.ty))) : VC ι F n K ρ l := fun a w he hw => by
  have h1 : Holds ι w (sep (Sl E h xs) (sep (seps (del l i)) F)) := (hw.ent (Ent.sep (Ent.out hA) Ent.rfl)).ent Ent.assoc
  obtain ⟨hl, hh⟩ := Sl.pts h1
  rcases hh with ⟨_, h0⟩ | ⟨b, pre, post, a1, a2, a3, hP⟩
  · omega
  · refine g b pre post ?_ a2 a3 a w he ((hP.ent Ent.assoc').ent (Ent.sep (Ent.back hA) Ent.rfl))
    cases h; simp at a1 hl; simp [a1, hl]
theorem sl_close {α : Type} {E : Enc α} {b : Nat} {cs pre post : List Value} {xs : List α} {cap : Nat} (hcs : cs = pre ++ flat E xs ++ post) (h1 : xs.length ≤ cap) (h2 : (cap - xs.length) * E.sz ≤ post.length) {m : Nat} (hm : m = xs.length) :
    Ent (Pts b cs E.ty) (Sl E ⟨some ⟨b, pre.length, none⟩, m, cap⟩ xs) := by
  subst hcs; subst hm
  exact fun r x h => ⟨rfl, .inr ⟨b, pre, post, rfl, h1, h2, h⟩⟩
theorem run_setcells {w : World} {b o : Nat} {cs vs : List Value} {e : TypeId} (hb : w.heap[b]? = some (.cells cs.toArray e (0, 0))) (h1 : ∀ c ∈ vs, c.oneCell' = true) (hfit : o + vs.length ≤ cs.length) :
    (storeCells ⟨b, o, none⟩ vs).run P w = .ok () (w.setRow b (splice cs o vs).toArray) := by
  have := run_storeCells_at P b o e vs 0 cs.toArray w hb (by simpa using hfit) h1
  simpa [splice] using this
/-- copy(dst, src), the source's elements known. -/
theorem vc_copyRaw (i : Nat) {b : Nat} {cs : List Value} {e : TypeId} (hA : nth l i = some (Pts b cs e)) {α : Type} {E : Enc α} (ys : List α) (j : Nat) {B : HP} (hB : nth l j = some B) {a2 : Option Addr} {l2 c2 : Nat} (hv : Vis B (Rd E ⟨a2, ys.length, c2⟩ ys)) {t tx : TypeId} (ht : TySl P t E.ty E.sz)
    {x y : Operand} {o dl dc : Nat} (hx : ev ρ x = some (.slice (some ⟨b, o, none⟩) dl dc)) (hy : ev ρ y = some (.slice a2 l2 c2)) (m : Nat) (hm : m = Nat.min l2 dl) (hml : ys.length = m) (hfit : o + m * E.sz ≤ cs.length) (hd : okO n dst = true)
    (g : VC ι F n (wpList P all Q rest) (putO dst (.int .i64 (m : Int)) ρ) (put l i (Pts b (splice cs o (flat E ys)) e))) :
    VC ι F n (wpList P all Q (⟨dst, .call { callee := .builtin .copy, args := #[x, y], argTypes := #[t, tx] }, ty, pos, aft, none⟩ :: rest)) ρ l := fun a w he hw =>
  wpList_plain rfl fun K hK => by
    have h1 : Holds ι w (sep (Pts b cs e) (sep (seps (del l i)) F)) := (hw.ent (Ent.sep (Ent.out hA) Ent.rfl)).ent Ent.assoc
    have hr := hv ι w (VC.chunk hw hB)
    have hcl : (flat E ys).length = m * E.sz := by rw [flat_length, hml]
    have hcells : (Builtin.firstCells E.sz m (.slice a2 l2 c2)).run P w = .ok (flat E ys).toArray w := by
      rcases hr.adr with ha | ⟨h0, hc0⟩
      · simp only [] at ha
        rw [ha]
        refine run_firstCells_some w E.sz m _ _ _ _ hcl (fun k u hu => ?_)
        rw [add_lit]
        exact hr.cell k u hu
      · subst h0
        have hm0 : m = 0 := by rw [← hml]; rfl
        subst hm0
        cases a2 with
        | none => simp [Builtin.firstCells, flat]
        | some ad =>
          have := run_firstCells_some (P := P) w E.sz 0 ad l2 c2 [] (by simp) (fun k u hu => by simp at hu)
          simpa [flat] using this
    have hst := run_setcells (P := P) (h1.ent Ent.left).pts (flat_one E ys) (o := o) (by rw [hcl]; exact hfit)
    have hrun : (Builtin.copy_ #[t, tx] ty #[.slice (some ⟨b, o, none⟩) dl dc, .slice a2 l2 c2]).run P w = .ok (.int .i64 (m : Int)) (w.setRow b (splice cs o (flat E ys)).toArray) := by
      have hm' : Nat.min l2 dl = m := hm.symm
      simp [Builtin.copy_, run_underlying ht.und, Builtin.lenOf, run_sizeOf ht.size]
      rw [hm', hcells]
      simp only [Result.andThen_ok]
      rw [hst]
      rfl
    unfold Oper.wp execOp
    simp only [resolve, invoke, builtin, Sem.run_bind, Sem.run_pure, Result.andThen_ok, List.map_toArray, List.map_cons, List.map_nil, he.eval hx, he.eval hy, hrun]
    exact hK _ _ (g _ _ (he.putO dst hd _) (((h1.set _).ent Ent.assoc').ent (Ent.sep (Ent.back hA) Ent.rfl)))
/-- clear(s). -/
theorem vc_clearRaw (i : Nat) {b : Nat} {cs : List Value} {e : TypeId} (hA : nth l i = some (Pts b cs e)) {t el : TypeId} {z : Value} (zs : List Value) (ht : P.underlying t = some (.slice el)) (hz : (P.info? el).map (·.zero) = some (some z)) (hzs : z.cells = zs.toArray) (hz1 : zs.all (fun c => c.oneCell') = true)
    {x : Operand} {o m c : Nat} (hx : ev ρ x = some (.slice (some ⟨b, o, none⟩) m c)) (hm : 0 < m) (hfit : o + m * zs.length ≤ cs.length) (hd : okO n dst = true)
    (g : VC ι F n (wpList P all Q rest) (putO dst (.tuple #[]) ρ) (put l i (Pts b (splice cs o (List.replicate m zs).flatten) e))) :
    VC ι F n (wpList P all Q (⟨dst, .call { callee := .builtin .clear, args := #[x], argTypes := #[t] }, ty, pos, aft, none⟩ :: rest)) ρ l := fun a w he hw =>
  wpList_plain rfl fun K hK => by
    have h1 : Holds ι w (sep (Pts b cs e) (sep (seps (del l i)) F)) := (hw.ent (Ent.sep (Ent.out hA) Ent.rfl)).ent Ent.assoc
    have hzv : (zeroValue el).run P w = .ok z w := by
      cases hq : P.info? el with
      | none => simp [hq] at hz
      | some i => simp [hq] at hz; simp [zeroValue, typeInfo, hq, hz]
    have hzc : ∀ m : Nat, (Builtin.zeroCells z.cells m).toList = (List.replicate m zs).flatten := by
      intro m
      rw [hzs]
      apply List.ext_getElem?
      intro k
      unfold Builtin.zeroCells
      by_cases hk : k < m * zs.length
      · have hpos : 0 < zs.length := by
          rcases Nat.eq_zero_or_pos zs.length with h0 | h0
          · rw [h0] at hk; simp at hk
          · exact h0
        have hmod : k % zs.length < zs.length := Nat.mod_lt _ hpos
        have hR : ∀ (m k : Nat), k < m * zs.length → (List.replicate m zs).flatten[k]? = zs[k % zs.length]? := by
          intro m
          induction m with
          | zero => intro k hk; simp at hk
          | succ m ih =>
            intro k hk
            rw [List.replicate_succ, List.flatten_cons]
            by_cases h : k < zs.length
            · rw [List.getElem?_append_left h, Nat.mod_eq_of_lt h]
            · rw [List.getElem?_append_right (by omega), ih (k - zs.length) (by rw [Nat.add_mul] at hk; omega)]
              congr 1
              rw [← Nat.mod_eq_sub_mod (by omega)]
        rw [hR m k hk]
        simp [hk, hmod]
      · have hL : (List.replicate m zs).flatten.length = m * zs.length := by simp
        rw [List.getElem?_eq_none (by simp; omega), List.getElem?_eq_none (by rw [hL]; omega)]
    have hone : ∀ u ∈ (List.replicate m zs).flatten, u.oneCell' = true := by
      intro u hu
      obtain ⟨y, hy, hu⟩ := List.mem_flatten.1 hu
      rw [(List.mem_replicate.1 hy).2] at hu
      exact all_one hz1 u hu
    have hst := run_setcells (P := P) (h1.ent Ent.left).pts hone (o := o) (by simpa using hfit)
    have hrun : (Builtin.clear_ #[t] ty #[.slice (some ⟨b, o, none⟩) m c]).run P w = .ok (.tuple #[]) (w.setRow b (splice cs o (List.replicate m zs).flatten).toArray) := by
      obtain ⟨m', rfl⟩ : ∃ m', m = m' + 1 := ⟨m - 1, by omega⟩
      simp only [Builtin.clear_, Sem.run_bind, run_underlying ht, Result.andThen_ok, hzv, hzc]
      simp [run_underlying ht, hzv, hzc, hst]
    unfold Oper.wp execOp
    simp only [resolve, invoke, builtin, Sem.run_bind, Sem.run_pure, Result.andThen_ok, List.map_toArray, List.map_cons, List.map_nil, he.eval hx, hrun]
    exact hK _ _ (g _ _ (he.putO dst hd _) (((h1.set _).ent Ent.assoc').ent (Ent.sep (Ent.back hA) Ent.rfl)))
/-- append where there is room, cell by cell. -/
theorem vc_appendRaw (i : Nat) {b : Nat} {cs : List Value} {e : TypeId} (hA : nth l i = some (Pts b cs e)) {α : Type} {E : Enc α} (ys : List α) (j : Nat) {B : HP} (hB : nth l j = some B) {h2 : SH} (hv : Vis B (Rd E h2 ys)) {t tx : TypeId} {by_ : Nat} (ht : TyEl P t E by_) {e' : TypeId} (htx : P.underlying tx = some (.slice e'))
    {x y : Operand} {o sl sc : Nat} (hx : ev ρ x = some (.slice (some ⟨b, o, none⟩) sl sc)) (hy : ev ρ y = some h2.v) (hroom : sl + ys.length ≤ sc) (hfit : o + sl * E.sz + ys.length * E.sz ≤ cs.length) (hd : Nat.blt d n = true)
    (g : VC ι F n (wpList P all Q rest) ((d, .slice (some ⟨b, o, none⟩) (sl + ys.length) sc) :: ρ) (put l i (Pts b (splice cs (o + sl * E.sz) (flat E ys)) e))) :
    VC ι F n (wpList P all Q (⟨some d, .call { callee := .builtin .append, args := #[x, y], argTypes := #[t, tx] }, ty, pos, aft, none⟩ :: rest)) ρ l := fun a w he hw =>
  wpList_plain rfl fun K hK => by
    have h1 : Holds ι w (sep (Pts b cs e) (sep (seps (del l i)) F)) := (hw.ent (Ent.sep (Ent.out hA) Ent.rfl)).ent Ent.assoc
    have hr := hv ι w (VC.chunk hw hB)
    obtain ⟨z, hinfo, hz⟩ := ht.info
    obtain ⟨ti, hi, hz0, hsz, hbs⟩ := info_get hinfo
    have hsrc := hr.src (P := P) htx
    have hst := run_setcells (P := P) (h1.ent Ent.left).pts (flat_one E ys) (o := o + sl * E.sz) (by rw [flat_length]; exact hfit)
    have hrun : (Builtin.append_ #[t, tx] ty #[.slice (some ⟨b, o, none⟩) sl sc, h2.v]).run P w = .ok (.slice (some ⟨b, o, none⟩) (sl + ys.length) sc) (w.setRow b (splice cs (o + sl * E.sz) (flat E ys)).toArray) := by
      have hcells := hsrc.cells
      have hlen := hsrc.len w
      rcases hsrc.kind with ⟨e'', hk⟩ | hk <;>
        (simp [Builtin.append_, run_underlying ht.und, run_underlying hk, sizeOf, typeInfo, hi, hlen, hroom, hsz, add_lit]
         rw [hcells]
         simp only [Result.andThen_ok]
         rw [hst]
         rfl)
    unfold Oper.wp execOp
    simp only [resolve, invoke, builtin, Sem.run_bind, Sem.run_pure, Result.andThen_ok, List.map_toArray, List.map_cons, List.map_nil, he.eval hx, he.eval hy, hrun]
    exact hK _ _ (g _ _ (he.put d hd _) (((h1.set _).ent Ent.assoc').ent (Ent.sep (Ent.back hA) Ent.rfl)))
/-- append(s, make([]E, k)...), where there is no room: a new array. -/
theorem wrapm {m : Nat} (h : m ≤ 9223372036854775807) : IntKind.i64.wrap (m : Int) = m := wrap64 (by omega) (by omega)
theorem vc_appendZ (j : Nat) {B : HP} (hB : nth l j = some B) {α : Type} {E : Enc α} {h : SH} {xs : List α} (hv : Vis B (Rd E h xs)) (z : α) {t tn : TypeId} {by_ : Nat} {kn : IntKind} (ht : TyEl P t E by_) (htn : P.underlying tn = some (.int kn)) {zv : Value} (hz : (P.info? E.ty).map (·.zero) = some (some zv)) (hzc : zv.cells = (E.f z).toArray)
    {x y : Operand} (hx : ev ρ x = some h.v) {k : IntKind} (m : Nat) {mz : Int} (hy : ev ρ y = some (.int k mz)) (hmz : mz = (m : Int)) (hg : h.cap < xs.length + m) (h63 : xs.length + m ≤ 9223372036854775807) (hby : (xs.length + m) * by_ ≤ 140737488355328) (hd : Nat.blt d n = true)
    (g : ∀ h' : SH, xs.length + m ≤ h'.cap → VC ι F n (wpList P all Q rest) ((d, h'.v) :: ρ) (Sl E h' (xs ++ List.replicate m z) :: l)) :
    VC ι F n (wpList P all Q (⟨some d, .call { callee := .builtin .append, args := #[x, y], argTypes := #[t, tn] }, ty, pos, aft, none⟩ :: rest)) ρ l := fun a w he hw =>
  wpList_plain rfl fun K hK => by
    subst hmz
    have hr := hv ι w (VC.chunk hw hB)
    obtain ⟨z', hinfo, hzs⟩ := ht.info
    obtain ⟨ti, hi, hz0, hsz, hbs⟩ := info_get hinfo
    have hzz : z' = zv := by simp [hi, hz0] at hz; exact hz
    subst hzz
    have hzn : ∀ m : Nat, (Builtin.zeroCells z'.cells m).toList = flat E (List.replicate m z) := by
      intro m
      have hR : flat E (List.replicate m z) = (List.replicate m (E.f z)).flatten := by
        induction m with
        | zero => rfl
        | succ m ih => rw [List.replicate_succ, List.replicate_succ, flat_cons, List.flatten_cons, ih]
      rw [hR, hzc]
      have hpos := E.pos
      have hlen := E.len z
      have hR2 : ∀ (m k : Nat), k < m * (E.f z).length → (List.replicate m (E.f z)).flatten[k]? = (E.f z)[k % (E.f z).length]? := by
        intro m
        induction m with
        | zero => intro k hk; simp at hk
        | succ m ih =>
          intro k hk
          rw [List.replicate_succ, List.flatten_cons]
          by_cases h : k < (E.f z).length
          · rw [List.getElem?_append_left h, Nat.mod_eq_of_lt h]
          · rw [List.getElem?_append_right (by omega), ih (k - (E.f z).length) (by rw [Nat.add_mul] at hk; omega)]
            congr 1
            rw [← Nat.mod_eq_sub_mod (by omega)]
      apply List.ext_getElem?
      intro k
      unfold Builtin.zeroCells
      by_cases hk : k < m * (E.f z).length
      · have hmod : k % (E.f z).length < (E.f z).length := Nat.mod_lt _ (by omega)
        rw [hR2 m k hk]
        simp [hk, hmod]
      · have hL : (List.replicate m (E.f z)).flatten.length = m * (E.f z).length := by simp
        rw [List.getElem?_eq_none (by simp; omega), List.getElem?_eq_none (by rw [hL]; omega)]
    have hold : (Builtin.firstCells ti.size xs.length (.slice h.a h.len h.cap)).run P w.drew = .ok (flat E xs).toArray w.drew := by
      rw [hsz]
      rcases hr.adr with ha | ⟨h0, hc0⟩
      · rw [ha]
        exact run_firstCells_some w.drew E.sz xs.length _ _ _ _ (flat_length E xs) (fun q u hu => by rw [add_lit]; exact hr.cell q u hu)
      · subst h0
        cases h.a with
        | none => simp [Builtin.firstCells, flat]
        | some ad =>
          have := run_firstCells_some (P := P) w.drew E.sz 0 ad h.len h.cap [] (by simp) (fun q u hu => by simp at hu)
          simpa [flat] using this
    have hn : ¬ (xs.length + m ≤ h.cap) := by omega
    have h63' : ¬ (9223372036854775807 < ((xs.length : Int) + (m : Int))) := by omega
    have h48' : ¬ (281474976710656 < Builtin.nextslicecap (xs.length + m) h.cap * ti.bytes) := by
      have := nextslicecap_any hg (b := ti.bytes) (by rw [hbs]; exact hby)
      omega
    have hmb : (m : Int) * (ti.bytes : Int) ≤ 140737488355328 := by
      have h2 : m * ti.bytes ≤ (xs.length + m) * by_ := by rw [hbs]; exact Nat.mul_le_mul_right _ (by omega)
      have h4 : ((m * ti.bytes : Nat) : Int) ≤ ((140737488355328 : Nat) : Int) := Int.ofNat_le.2 (Nat.le_trans h2 hby)
      rw [Int.natCast_mul] at h4
      exact h4
    have h48i : ¬ (281474976710656 < (m : Int) * (ti.bytes : Int)) := by omega
    have hneg : ¬ ((m : Int) < 0) := by omega
    have hw64 : IntKind.i64.wrap (m : Int) = m := wrapm (by omega)
    have hlen : h.len = xs.length := hr.len
    have hrun : (Builtin.append_ #[t, tn] ty #[h.v, .int k (m : Int)]).run P w =
        .ok (.slice (some ⟨w.heap.size, 0, none⟩) (xs.length + m) (grownCap w (xs.length + m) h.cap E.ty))
          (w.drew.alloc (.cells ((flat E xs).toArray ++ Builtin.zeroCells z'.cells m ++ Builtin.zeroCells z'.cells (grownCap w (xs.length + m) h.cap E.ty - (xs.length + m))) E.ty)) := by
      have h0 : 0 < m := by have := hr.cap; omega
      have hms : ¬ (m * ti.size = 0) := by
        rw [hsz]; have := E.pos; exact Nat.ne_of_gt (Nat.mul_pos h0 this)
      have hms' : ¬ (m = 0 ∨ ti.size = 0) := by rw [← Nat.mul_eq_zero]; exact hms
      obtain ⟨ha, hl, hcp⟩ := h
      simp only [] at hlen
      subst hlen
      simp only [] at hold hn h48'
      simp [SH.v, Builtin.append_, run_underlying ht.und, run_underlying htn, sizeOf, typeInfo, zeroValue, hi, hz0, asInt, asIntOf, hw64, hn, h63', h48', h48i, hneg, hms, hms', Question.forced, newRow, grownCap, hold]
    unfold Oper.wp execOp
    simp only [resolve, invoke, builtin, Sem.run_bind, Sem.run_pure, Result.andThen_ok, List.map_toArray, List.map_cons, List.map_nil, he.eval hx, he.eval hy, hrun]
    have hge := grownCap_ge w (xs.length + m) h.cap E.ty
    have hG : Holds ι w.drew (sep (seps l) F) := hw.draw1
    have hnw := hG.new (flat E (xs ++ List.replicate m z) ++ (Builtin.zeroCells z'.cells (grownCap w (xs.length + m) h.cap E.ty - (xs.length + m))).toList) E.ty
    have hq : (Builtin.zeroCells z'.cells (grownCap w (xs.length + m) h.cap E.ty - (xs.length + m))).toList.length = (grownCap w (xs.length + m) h.cap E.ty - (xs.length + m)) * E.sz := by
      rw [Array.length_toList, size_zeroCells, hzs]
    have e : (flat E (xs ++ List.replicate m z) ++ (Builtin.zeroCells z'.cells (grownCap w (xs.length + m) h.cap E.ty - (xs.length + m))).toList).toArray = ((flat E xs).toArray ++ Builtin.zeroCells z'.cells m ++ Builtin.zeroCells z'.cells (grownCap w (xs.length + m) h.cap E.ty - (xs.length + m))) := by
      apply Array.ext'; simp [flat_append, ← hzn]
    rw [e] at hnw
    refine hK _ _ (g ⟨some ⟨w.heap.size, 0, none⟩, xs.length + m, grownCap w (xs.length + m) h.cap E.ty⟩ hge _ _ (he.put d hd _) ((hnw.ent Ent.assoc').ent (Ent.sep (Ent.sep ?_ Ent.rfl) Ent.rfl)))
    have := Sl.mk1 (E := E) w.drew.heap.size (xs ++ List.replicate m z) (grownCap w (xs.length + m) h.cap E.ty) (Builtin.zeroCells z'.cells (grownCap w (xs.length + m) h.cap E.ty - (xs.length + m))).toList (by simpa using hge) (by rw [hq]; simp)
    simpa using this
/-- Two slices in two owned blocks don't overlap. -/
theorem y_overlaps {t0 tR : TypeId} {f : FuncId} {fn : Func} (hf : P.funcs[f]? = some fn) (hb : fn.body = none) (hnm : (fn.name == "runtime.NumGoroutine") = false) (hnx : Extern.findNext fn = none) (hx' : Extern.find fn = some (Extern.SlicesOverlaps.overlaps #[t0, t0] #[tR]))
    {el : TypeId} {sz : Nat} (ht : TySl P t0 el sz) (i j : Nat) {b1 b2 : Nat} {cs1 cs2 : List Value} {e1 e2 : TypeId} (hA : nth l i = some (Pts b1 cs1 e1)) (hB : nth l j = some (Pts b2 cs2 e2)) (hij : Nat.beq i j = false) (hne2 : cs2.isEmpty = false)
    {x y : Operand} {ats : Array TypeId} {c : Operand} (hc : ev ρ c = some (.func (.func f) #[] #[])) {o1 n1 c1 o2 n2 c2 : Nat} (hx : ev ρ x = some (.slice (some ⟨b1, o1, none⟩) n1 c1)) (hy : ev ρ y = some (.slice (some ⟨b2, o2, none⟩) n2 c2)) :
    Yld P ι F n ρ l ⟨dst, .call { callee := .value c, args := #[x, y], argTypes := ats }, ty, pos, aft, gd⟩ (.bool false) := fun a w he hw => by
  have hp1 := (VC.chunk hw hA).pts
  have hp2 := (VC.chunk hw hB).pts
  have hne : b1 ≠ b2 := by
    intro hbb
    subst hbb
    have hij' : i ≠ j := ne_of_beq hij
    obtain ⟨_, _, r, x0, s, hp⟩ := hw.ent Ent.left
    have key : ∀ (l : List HP) (i j : Nat) (x0 : Hh), i ≠ j → nth l i = some (Pts b1 cs1 e1) → nth l j = some (Pts b1 cs2 e2) → (seps l).P r x0 → False := by
      intro l
      induction l with
      | nil => intro i j x0 _ h; simp [nth] at h
      | cons A l ih =>
        intro i j x0 hne h1 h2 hp
        obtain ⟨y1, y2, hjn, ha, hl⟩ := hp
        have out : ∀ (l : List HP) (k : Nat) (cs : List Value) (e : TypeId) (x0 : Hh), nth l k = some (Pts b1 cs e) → (seps l).P r x0 → ∃ o, x0 b1 = some o := by
          intro l k cs e x0 h hp
          obtain ⟨z1, z2, hj2, hz, _⟩ := Ent.out h r x0 hp
          exact ⟨_, hj2.sub1 _ _ hz⟩
        cases i with
        | zero =>
          cases j with
          | zero => exact hne rfl
          | succ j =>
            simp [nth] at h1 h2
            subst h1
            obtain ⟨o, ho⟩ := out l j cs2 e2 y2 h2 hl
            have ha' : y1 b1 = some _ := ha
            rcases hjn b1 with ⟨_, q⟩ | ⟨_, q⟩
            · rw [q] at ho; cases ho
            · rw [q] at ha'; cases ha'
        | succ i =>
          cases j with
          | zero =>
            simp [nth] at h1 h2
            subst h2
            obtain ⟨o, ho⟩ := out l i cs1 e1 y2 h1 hl
            have ha' : y1 b1 = some _ := ha
            rcases hjn b1 with ⟨_, q⟩ | ⟨_, q⟩
            · rw [q] at ho; cases ho
            · rw [q] at ha'; cases ha'
          | succ j => exact ih i j y2 (by omega) h1 h2 hl
    exact key l i j x0 hij' hA hB hp
  have hnm' : ¬ (fn.name = "runtime.NumGoroutine") := by simpa using hnm
  have hf1 : ∀ o : Nat, w.frozen? ⟨b1, o, none⟩ = false := fun o => by simp [World.frozen?, hp1]
  have hf2 : ∀ o : Nat, w.frozen? ⟨b2, o, none⟩ = false := fun o => by simp [World.frozen?, hp2]
  have hs1 : w.shape? b1 = some (e1, cs1.length) := by simp [World.shape?, hp1]
  have hs2 : w.shape? b2 = some (e2, cs2.length) := by simp [World.shape?, hp2]
  have hov : (Extern.SlicesOverlaps.overlaps #[t0, t0] #[tR] #[.slice (some ⟨b1, o1, none⟩) n1 c1, .slice (some ⟨b2, o2, none⟩) n2 c2]).run P w = .ok (.bool false) w :=
    Lib.run_overlaps_apart w t0 tR el ht.und sz (run_sizeOf ht.size) ⟨b1, o1, none⟩ ⟨b2, o2, none⟩ n1 c1 n2 c2 hne e1 e2 cs1.length cs2.length hs1 hs2 (by cases cs2 <;> simp_all) (hf1 o1) (hf1 cs1.length)
  have hcall : (callFunc f #[.slice (some ⟨b1, o1, none⟩) n1 c1, .slice (some ⟨b2, o2, none⟩) n2 c2]).run P w = .ok (.value (.bool false)) w := by
    simp [callFunc, program, Sem.run, hf, hb, hnm', mark, hnx, hx', hov]
  simp only [execOp, resolve, he.eval hc, Deferred.ofValue, invoke, Sem.run_bind, Sem.run_pure, Result.andThen_ok, List.map_toArray, List.map_cons, List.map_nil, he.eval hx, he.eval hy]
  simpa using hcall
/-! ### Lists under splice -/
def over {α : Type} (xs : List α) (j : Nat) (ys : List α) : List α := xs.take j ++ ys ++ xs.drop (j + ys.length)
theorem splice_flat {α : Type} (E : Enc α) {xs ys : List α} {pre post : List Value} {j : Nat} (hj : j ≤ xs.length) :
    splice (pre ++ flat E xs ++ post) (pre.length + j * E.sz) (flat E ys) = pre ++ flat E (over xs j ys) ++ post.drop ((j + ys.length - xs.length) * E.sz) := by
  unfold splice over
  have e1 : (pre ++ flat E xs ++ post).take (pre.length + j * E.sz) = pre ++ flat E (xs.take j) := by
    rw [List.append_assoc, List.take_length_add_append, List.take_append_of_le_length (by rw [flat_length]; exact Nat.mul_le_mul_right _ hj), flat_take]
  have e2 : (pre ++ flat E xs ++ post).drop (pre.length + j * E.sz + (flat E ys).length) = flat E (xs.drop (j + ys.length)) ++ post.drop ((j + ys.length - xs.length) * E.sz) := by
    rw [List.append_assoc, Nat.add_assoc, List.drop_length_add_append, flat_length E ys, ← Nat.add_mul, flat_drop]
    rw [List.drop_append, flat_length, ← Nat.sub_mul]
  rw [e1, e2]
  simp [flat_append]
theorem cutR {b o m c sz lo hi mx : Nat} (h : Nat.beq mx lo = false) : SH.cut ⟨some ⟨b, o, none⟩, m, c⟩ sz lo hi mx = ⟨some ⟨b, o + lo * sz, none⟩, hi - lo, mx - lo⟩ := by
  have : mx ≠ lo := fun e => by subst e; simp at h
  simp [SH.cut, this, add_lit]
/-- s[lo:hi:max] of a slice in an opened block. -/
theorem y_sliceR {t e : TypeId} {sz : Nat} (ht : TySl P t e sz) {x : Operand} {b o m c : Nat} (hx : ev ρ x = some (.slice (some ⟨b, o, none⟩) m c)) {ol oh om : Option Operand} (lo hi mx o' m' c' : Nat) (b1 : bnd ρ ol 0 lo) (b2 : bnd ρ oh m hi) (b3 : bnd ρ om c mx) (hom : om.isSome = true → oh.isSome = true)
    (h1 : lo ≤ hi) (h2 : hi ≤ mx) (h3 : mx ≤ c) (h4 : lo ≠ mx) (ho : o' = o + lo * sz) (hm : m' = hi - lo) (hc : c' = mx - lo) : Yld P ι F n ρ l ⟨dst, .slice t x ol oh om, ty, pos, aft, gd⟩ (.slice (some ⟨b, o', none⟩) m' c') := by
  have := y_slice (P := P) (ι := ι) (F := F) (n := n) (l := l) (ty := ty) (pos := pos) (aft := aft) (dst := dst) (gd := gd) ht (x := x) (h := ⟨some ⟨b, o, none⟩, m, c⟩) hx lo hi mx b1 b2 b3 hom h1 h2 h3
  have hb : Nat.beq mx lo = false := by
    cases hq : Nat.beq mx lo with
    | false => rfl
    | true => exact absurd (Nat.eq_of_beq_eq_true hq).symm h4
  rw [cutR hb] at this
  subst ho; subst hm; subst hc
  exact this
theorem Pts.rd {α : Type} {E : Enc α} {b : Nat} {pre post : List Value} {xs : List α} {e : TypeId} {cap : Nat} (hc : xs.length ≤ cap) : Vis (Pts b (pre ++ flat E xs ++ post) e) (Rd E ⟨some ⟨b, pre.length, none⟩, xs.length, cap⟩ xs) := fun ι w hh =>
  ⟨rfl, hc, .inl rfl, fun m c h => cell_mid w b pre _ post e _ hh.pts m c h⟩
/-- Part of what is opened, read. -/
theorem Pts.rdR {α : Type} {E : Enc α} {b : Nat} {pre post : List Value} {xs : List α} {e : TypeId} (ys : List α) (j : Nat) (hy : (xs.drop j).take ys.length = ys) {o c m : Nat} (ho : o = pre.length + j * E.sz) (hm : m = ys.length) (hc : m ≤ c) : Vis (Pts b (pre ++ flat E xs ++ post) e) (Rd E ⟨some ⟨b, o, none⟩, m, c⟩ ys) := fun ι w hh => by
  subst hm
  refine ⟨rfl, hc, .inl rfl, fun m v h => ?_⟩
  have h1 : (flat E xs)[j * E.sz + m]? = some v := by
    rw [← hy, flat_take, flat_drop, List.getElem?_take] at h
    split at h
    · rwa [List.getElem?_drop] at h
    · cases h
  have := cell_mid w b pre _ post e _ hh.pts _ v h1
  simp only [SH.blk, SH.off]
  rw [ho, Nat.add_assoc]
  exact this
end
end Go.Eng
