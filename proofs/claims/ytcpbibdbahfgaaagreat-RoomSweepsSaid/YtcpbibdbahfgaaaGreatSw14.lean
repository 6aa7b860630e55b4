/-
 RoomSweeps: for every input the law returns true, and each argument reads behind the call as it read before.
 No condition beyond the row's own.
-/
import Derived.Test.YtcpbibdbahfgaaaGreatRows
import Derived.Test.YtcpbibdbahfgaaaGreatSw13
namespace Go.Proofs.YtcpbibdbahfgaaaGreat.roomSweeps
open Go.ChangeShapes Go.WideShapes Go.ChangeAt Go.RowKit Go.Eng
open Go.ChangeMaps (open_string shut_string)
set_option linter.unusedVariables false
set_option autoImplicit false
theorem own : ownKnob Tryz.prog.godebug = none := by kernel_rfl
theorem laidOut : laidOutB Tryz.prog = true := by kernel_rfl
set_option maxRecDepth 100000 in
theorem lifted (os : Os) (started : os.Started) (H : Type) (enc : TypeId × Value → H) :
  ReturnsInHanded {} Tryz.checked os 3 .any (Rows.roomSweepsSpec.pre6 enc Tryz.prog Tryz.f3 Rows.roomSweepsRow.domain false) (Rows.roomSweepsSpec.post enc Tryz.prog Tryz.f3 false true false false) := by
 refine returnsInHanded_of_change_sized (C := Tryz.checked) own started (by kernel_rfl) Tryz.func3
  (ChangeSpec.witness6 (enc := enc) (C := Tryz.checked) false ⟨#[], #[.agg #[.slice none 0 0, .int .i64 0, .int .i64 0, .int .i64 0], .slice none 0 0, .slice none 0 0], []⟩ 8 (by kernel_rfl) (by kernel_rfl) (by kernel_rfl) (by kernel_rfl)) ?_
 intro W base args ds gs before hval0 hW hcnd hsz0 _
 have hval : ∀ (j : Nat) t v, Tryz.f3.params[j]? = some t → args[j]? = some v → Value.okWide Tryz.prog W .any base t v := hval0
 have hW' := hW
 obtain ⟨p, q, hA0, hV, rfl, hfz, hnd⟩ := hW
 have hA : DataW.TrodAll enc Tryz.prog W 0 (fun _ => true) true Tryz.f3.params.toList args.toList ds p := hA0
 rw [Tryz.params3] at hA hval
 obtain ⟨v0, vs0, d0, ds0, p0, q0, hargs, rfl, rfl, h0, r0⟩ := trodAll_cons hA
 obtain ⟨v1, vs1, d1, ds1, p1, q1, rfl, rfl, rfl, h1, r1⟩ := trodAll_cons r0
 obtain ⟨v2, vs2, d2, ds2, p2, q2, rfl, rfl, rfl, h2, r2⟩ := trodAll_cons r1
 obtain ⟨rfl, rfl, rfl⟩ := trodAll_nil r2
 obtain rfl : args = #[v0, v1, v2] := by cases args; simp_all
 obtain ⟨rfl, rfl⟩ := trodVars_none hV
 have k0 := h0
 have k1 := h1
 have k2 := h2
 obtain ⟨w0, w1, w2, w3, y0, y1, y2, y3, n0, rfl, _, _, g0, g1, g2, g3⟩ := Joins.open_agg4 Tryz.underlying24 (by kernel_rfl) (by kernel_rfl) (hval 0 24 v0 rfl rfl) h0
 obtain ⟨hl, label, e0, hrl, hpl, _⟩ := open_slice (E := eU64) Tryz.underlying22 co_u64 opens_u64 g0
 obtain ⟨ring, e1, _, _⟩ := DataW.trod_int Tryz.underlying3 g1
 obtain ⟨quota, e2, _, _⟩ := DataW.trod_int Tryz.underlying3 g2
 obtain ⟨most, e3, _, _⟩ := DataW.trod_int Tryz.underlying3 g3
 simp only [List.cons.injEq, and_true] at e0 e1 e2 e3
 subst e0 e1 e2 e3
 obtain ⟨ha, acts, rfl, hra, hA2⟩ : ∃ (ha : SH) (acts : List ActV), v1 = ha.v ∧ Rd eAct ha acts W ∧ ∀ a ∈ acts, ActRd W a := by
  obtain ⟨a1, len1, cap1, rfl⟩ := okWide_slice Tryz.underlying25 (hval 1 25 v1 rfl rfl)
  obtain ⟨fuel, hf⟩ := h1
  obtain ⟨g, xs, hc, hr, hx, _⟩ := open_slice (E := eAct) Tryz.underlying25 co_act opens_act hf
  exact ⟨⟨a1, len1, cap1⟩, xs, rfl, by
   simp only [Value.cells, SH.v, List.cons.injEq, and_true, Value.slice.injEq] at hc
   obtain ⟨ga, gl, gc⟩ := g
   simp only at hc
   obtain ⟨rfl, rfl, rfl⟩ := hc
   exact hr, hx⟩
 obtain ⟨hs, bs, rfl, hrs⟩ : ∃ (hs : SH) (bs : List Bool), v2 = hs.v ∧ Rd eBool hs bs W := by
  obtain ⟨a1, len1, cap1, rfl⟩ := okWide_slice Tryz.underlying26 (hval 2 26 v2 rfl rfl)
  obtain ⟨fuel, hf⟩ := h2
  obtain ⟨g, xs, hc, hr, hx, _⟩ := open_slice (E := eBool) (R := fun _ => True) Tryz.underlying26 co_bool (fun fuel cs x h => by
   obtain ⟨t0, e0, _⟩ := DataW.trod_bool Tryz.underlying4 h
   exact ⟨t0, e0, trivial⟩) hf
  exact ⟨⟨a1, len1, cap1⟩, xs, rfl, by
   simp only [Value.cells, SH.v, List.cons.injEq, and_true, Value.slice.injEq] at hc
   obtain ⟨ga, gl, gc⟩ := g
   simp only at hc
   obtain ⟨rfl, rfl, rfl⟩ := hc
   exact hr⟩
 clear hA0 hval0 hsz0
 have hdo : Does Tryz.prog 3 [.agg #[hl.v, .int .i64 ring, .int .i64 quota, .int .i64 most], ha.v, hs.v] [Mem W] (fun v l => v = .bool true ∧ l = [Mem W]) := by
  cases hr : setRight label ring quota most with
  | true => exact sweeps_ok hrl.mem (fun t ht => (hpl t ht).1) ring quota most hra.mem (fun a h => (hA2 a h).ok) hrs.mem hr
  | false => exact sweeps_bad hrl.mem (fun t ht => (hpl t ht).1) ring quota most hra.mem (fun a h => (hA2 a h).ok) hrs.mem hr
 refine (law_calls hdo).mono fun e W' ⟨he, bel⟩ => ?_
 subst he
 exact ⟨_, rfl, _, _, _, [], _, [], hW', trodAll_mk1 (shut_bool Tryz.underlying4 _),
  (trodAll_cons_mk (bel.trod laidOut (by kernel_rfl) (of_decide_eq_true (by kernel_rfl)) k0) (trodAll_cons_mk (bel.trod laidOut (by kernel_rfl) (of_decide_eq_true (by kernel_rfl)) k1) (trodAll_cons_mk (bel.trod laidOut (by kernel_rfl) (of_decide_eq_true (by kernel_rfl)) k2) trodAll_mk0))),
  rfl, bel.frame _, fun h => by cases h⟩
theorem over : Rows.roomSweepsRow.holds Tryz.pinned (OpenSpec.ofChange Rows.roomSweepsSpec) :=
 OpenClaim.holds_of_wide 3 Tryz.f3 rfl rfl rfl rfl rfl rfl rfl ⟨rfl, rfl, rfl, rfl, rfl⟩ rfl rfl rfl rfl rfl (by kernel_rfl) Tryz.func3 (by kernel_rfl)
  (of_decide_eq_true (by kernel_rfl)) (by unfold Func.isWrapper; first | (rw [if_pos (by decide +kernel)]; kernel_rfl) | (rw [if_neg (by decide +kernel)]; exact ⟨rfl, rfl⟩))
  (fun os started H enc _ => lifted os started H enc)
theorem proved : Rows.RoomSweepsSaid := over
#print axioms proved
end Go.Proofs.YtcpbibdbahfgaaaGreat.roomSweeps
namespace Go.Proofs.YtcpbibdbahfgaaaGreat
theorem roomSweeps_holds : Rows.RoomSweepsSaid := roomSweeps.proved
end Go.Proofs.YtcpbibdbahfgaaaGreat
