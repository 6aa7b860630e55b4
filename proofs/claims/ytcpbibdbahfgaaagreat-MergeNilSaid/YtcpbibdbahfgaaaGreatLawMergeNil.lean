/-
 MergeNil: for every input the law returns true, and each argument reads behind the call as it read before.
 No condition beyond the row's own.
-/
import Derived.Test.YtcpbibdbahfgaaaGreatRows
import Derived.Test.YtcpbibdbahfgaaaGreatLaw13b
import Derived.Test.YtcpbibdbahfgaaaGreatRowP
namespace Go.Proofs.YtcpbibdbahfgaaaGreat.mergeNil
open Go.ChangeShapes Go.WideShapes Go.ChangeAt Go.RowKit Go.Eng
open Go.ChangeMaps (open_string shut_string)
set_option linter.unusedVariables false
set_option autoImplicit false
theorem own : ownKnob Tryz.prog.godebug = none := by kernel_rfl
theorem laidOut : laidOutB Tryz.prog = true := by kernel_rfl
theorem wf64 {n : Int} (h : (Lit.int .i64 n).wf = true) : -9223372036854775808 ≤ n ∧ n ≤ 9223372036854775807 := by
 simp only [Lit.wf, Bool.and_eq_true, decide_eq_true_eq] at h
 exact h
theorem wfU64 {n : Int} (h : (Lit.int .u64 n).wf = true) : 0 ≤ n ∧ n ≤ 18446744073709551615 := by
 simp only [Lit.wf, Bool.and_eq_true, decide_eq_true_eq] at h
 exact h
set_option maxRecDepth 100000 in
theorem lifted (os : Os) (started : os.Started) (H : Type) (enc : TypeId × Value → H) :
  ReturnsInHanded {} Tryz.checked os 6 .any (Rows.mergeNilSpec.pre6 enc Tryz.prog Tryz.f6 Rows.mergeNilRow.domain false) (Rows.mergeNilSpec.post enc Tryz.prog Tryz.f6 false true false false) := by
 refine returnsInHanded_of_change_sized (C := Tryz.checked) own started (by kernel_rfl) Tryz.func6
  (ChangeSpec.witness6 (enc := enc) (C := Tryz.checked) false ⟨#[], #[.int .i64 0, .slice none 0 0, .agg #[.string ByteArray.empty, .string ByteArray.empty, .int .i64 0], .agg #[.bool false, .string ByteArray.empty, .int .u64 0]], []⟩ 8 (by kernel_rfl) (by kernel_rfl) (by kernel_rfl) (by kernel_rfl)) ?_
 intro W base args ds gs before hval0 hW hcnd hsz0 _
 have hval : ∀ (j : Nat) t v, Tryz.f6.params[j]? = some t → args[j]? = some v → Value.okWide Tryz.prog W .any base t v := hval0
 have hW' := hW
 obtain ⟨p, q, hA0, hV, rfl, hfz, hnd⟩ := hW
 have hA : DataW.TrodAll enc Tryz.prog W 0 (fun _ => true) true Tryz.f6.params.toList args.toList ds p := hA0
 rw [Tryz.params6] at hA hval
 obtain ⟨v0, vs0, d0, ds0, p0, q0, hargs, rfl, rfl, h0, r0⟩ := trodAll_cons hA
 obtain ⟨v1, vs1, d1, ds1, p1, q1, rfl, rfl, rfl, h1, r1⟩ := trodAll_cons r0
 obtain ⟨v2, vs2, d2, ds2, p2, q2, rfl, rfl, rfl, h2, r2⟩ := trodAll_cons r1
 obtain ⟨v3, vs3, d3, ds3, p3, q3, rfl, rfl, rfl, h3, r3⟩ := trodAll_cons r2
 obtain ⟨rfl, rfl, rfl⟩ := trodAll_nil r3
 obtain rfl : args = #[v0, v1, v2, v3] := by cases args; simp_all
 obtain ⟨rfl, rfl⟩ := trodVars_none hV
 have k0 := h0
 have k1 := h1
 have k2 := h2
 have k3 := h3
 obtain ⟨a0, rfl, _, _, w0⟩ := open_int Tryz.underlying3 (hval 0 3 v0 rfl rfl) h0
 obtain ⟨a1, len1, cap1, rfl⟩ := okWide_slice Tryz.underlying72 (hval 1 72 v1 rfl rfl)
 obtain ⟨zs, hz⟩ : ∃ zs : List Int, Rd eInt ⟨a1, len1, cap1⟩ zs W ∧ zs.length ≤ maxLen := by
  obtain ⟨fuel, hf⟩ := h1
  rcases open_ints Tryz.underlying72 Tryz.underlying3 (by kernel_rfl) hf with ⟨hcs, _⟩ | ⟨x, l, c, zs, hcs, _, hl, hm, hz, _, hcell, hwz⟩
  ·simp [Value.cells] at hcs
   obtain ⟨rfl, rfl, rfl⟩ := hcs
   exact ⟨[], Rd.nil, by simp [maxLen]⟩
  ·simp [Value.cells] at hcs
   obtain ⟨rfl, rfl, rfl⟩ := hcs
   have hz' : zs.length = cap1 := by simpa using hz
   exact ⟨zs.take len1, rd_ints (E := eInt) (fun _ => rfl) hl hz' hcell, by rw [List.length_take]; omega⟩
 obtain ⟨x0, x1, x2, y0, y1, y2, n2, rfl, _, _, g0, g1, g2⟩ := Joins.open_agg3 Tryz.underlying74 (by kernel_rfl) (by kernel_rfl) (hval 2 74 v2 rfl rfl) h2
 obtain ⟨s0, hs0, _, _⟩ := DataW.trod_string Tryz.underlying9 g0
 obtain ⟨s1, hs1, _, _⟩ := DataW.trod_string Tryz.underlying9 g1
 obtain ⟨s2, hs2, _, _⟩ := DataW.trod_int Tryz.underlying3 g2
 obtain ⟨z0, z1, z2, u0, u1, u2, n3, rfl, _, _, e0, e1, e2⟩ := Joins.open_agg3 Tryz.underlying45 (by kernel_rfl) (by kernel_rfl) (hval 3 45 v3 rfl rfl) h3
 obtain ⟨t0, ht0, _⟩ := DataW.trod_bool Tryz.underlying4 e0
 obtain ⟨t1, ht1, _, _⟩ := DataW.trod_string Tryz.underlying9 e1
 obtain ⟨t2, ht2, _, wt2⟩ := DataW.trod_int Tryz.underlying34 e2
 simp only [List.cons.injEq, and_true] at hs0 hs1 hs2 ht0 ht1 ht2
 subst hs0 hs1 hs2 ht0 ht1 ht2
 clear hA0 hval0 hsz0
 have hml : zs.length ≤ 9223372036854775807 := Nat.le_trans hz.2 (by decide)
 refine (law_calls (mergeNil_law (A := Mem W) hz.1.mem hml a0 (wf64 w0).2 s0 s1 s2 ⟨t0, t1, t2⟩ (wfU64 wt2))).mono fun e W' ⟨he, bel⟩ => ?_
 subst he
 exact ⟨_, rfl, _, _, _, [], _, [], hW', trodAll_mk1 (shut_bool Tryz.underlying4 _),
  (trodAll_cons_mk (bel.trod laidOut (by kernel_rfl) (of_decide_eq_true (by kernel_rfl)) k0) (trodAll_cons_mk (bel.trod laidOut (by kernel_rfl) (of_decide_eq_true (by kernel_rfl)) k1) (trodAll_cons_mk (bel.trod laidOut (by kernel_rfl) (of_decide_eq_true (by kernel_rfl)) k2) (trodAll_cons_mk (bel.trod laidOut (by kernel_rfl) (of_decide_eq_true (by kernel_rfl)) k3) trodAll_mk0)))),
  rfl, bel.frame _, fun h => by cases h⟩
theorem over : Rows.mergeNilRow.holds Tryz.pinned (OpenSpec.ofChange Rows.mergeNilSpec) :=
 OpenClaim.holds_of_wide 6 Tryz.f6 rfl rfl rfl rfl rfl rfl rfl ⟨rfl, rfl, rfl, rfl, rfl⟩ rfl rfl rfl rfl rfl (by kernel_rfl) Tryz.func6 (by kernel_rfl)
  (of_decide_eq_true (by kernel_rfl)) (by unfold Func.isWrapper; first | (rw [if_pos (by decide +kernel)]; kernel_rfl) | (rw [if_neg (by decide +kernel)]; exact ⟨rfl, rfl⟩))
  (fun os started H enc _ => lifted os started H enc)
theorem proved : Rows.MergeNilSaid := over
#print axioms proved
end Go.Proofs.YtcpbibdbahfgaaaGreat.mergeNil
namespace Go.Proofs.YtcpbibdbahfgaaaGreat
/-- The row, under a short name, for the claim. -/
theorem mergeNil_holds : Rows.MergeNilSaid := mergeNil.proved
end Go.Proofs.YtcpbibdbahfgaaaGreat
