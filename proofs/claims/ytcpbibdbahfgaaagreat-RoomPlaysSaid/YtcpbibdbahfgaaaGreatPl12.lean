/-
 The references of numbers and values.
-/
import Derived.Test.YtcpbibdbahfgaaaGreatPl3
import Derived.Test.YtcpbibdbahfgaaaGreatPl11
set_option linter.unusedVariables false
set_option linter.unusedSimpArgs false
set_option autoImplicit false
set_option maxHeartbeats 4000000
namespace Go.Proofs.YtcpbibdbahfgaaaGreat
open Go.Eng
namespace FRef1
theorem ca_175 : Callable Tryz.prog 175 := ⟨_, _, Tryz.func175, rfl, rfl⟩
theorem ca_139 : Callable Tryz.prog 139 := ⟨_, _, Tryz.func139, rfl, rfl⟩
theorem fl_45_0 : Fld Tryz.prog 45 0 0 := ⟨_, _, 0, Tryz.underlying45, rfl, rfl, by kernel_rfl⟩
theorem one_4 : TyOne Tryz.prog 4 := ⟨⟨_, Tryz.underlying4, rfl⟩, by kernel_rfl⟩
theorem fl_45_2 : Fld Tryz.prog 45 2 2 := ⟨_, _, 0, Tryz.underlying45, rfl, rfl, by kernel_rfl⟩
theorem one_34 : TyOne Tryz.prog 34 := ⟨⟨_, Tryz.underlying34, rfl⟩, by kernel_rfl⟩
theorem fl_45_1 : Fld Tryz.prog 45 1 1 := ⟨_, _, 0, Tryz.underlying45, rfl, rfl, by kernel_rfl⟩
theorem one_9 : TyOne Tryz.prog 9 := ⟨⟨_, Tryz.underlying9, rfl⟩, by kernel_rfl⟩
theorem ca_103 : Callable Tryz.prog 103 := ⟨_, _, Tryz.func103, rfl, rfl⟩
end FRef1
open FRef1
theorem tdiv_nat (a b : Nat) : ((a : Int)).tdiv (b : Int) = ((a / b : Nat) : Int) := by rw [Int.tdiv_eq_ediv_of_nonneg (by omega)]; omega
theorem tmod_nat (a b : Nat) : ((a : Int)).tmod (b : Int) = ((a % b : Nat) : Int) := by rw [Int.tmod_eq_emod_of_nonneg (by omega)]; omega
theorem nan_parts {b : Nat} (h : b ≤ 18446744073709551615) : (decide (((b / 4503599627370496 % 2048 : Nat) : Int) = 2047) && decide ((0 : Int) < ((b % 4503599627370496 : Nat) : Int))) = nanB b := by
 unfold nanB
 rw [Bool.eq_iff_iff]
 simp only [Bool.and_eq_true, decide_eq_true_eq]
 omega
theorem notT0 {b : Bool} (h : (!b) = true) : b = false := by cases b <;> simp_all
theorem notF0 {b : Bool} (h : (!b) = false) : b = true := by cases b <;> simp_all
theorem size0 (a : ByteArray) : a.size = 0 ↔ sEq a ⟨#[]⟩ = true := by
 rw [sEq_iff]
 constructor
 ·intro h
  obtain ⟨⟨l⟩⟩ := a
  cases l with
  | nil => rfl
  | cons x l => simp [ByteArray.size] at h
 ·intro h; rw [h]; rfl
theorem parts_spec {b : Nat} (hb : b ≤ 18446744073709551615) : Does Tryz.prog 175 [.float .f64 b] [] (fun v l => v = .tuple #[.bool (decide ((9223372036854775808 : Int) ≤ (b : Int))), .int .u64 ((b / 4503599627370496 % 2048 : Nat) : Int), .int .u64 ((b % 4503599627370496 : Nat) : Int)] ∧ l = []) := by
 refine spec_of Tryz.func175 rfl Tryz.ntmps175 Tryz.results175 _ (by simp) fun ι F => ?_
 refine vc_seq ?_
 refine vc_region ?_
 iterate 3 refine vp ?_
 refine vc_nil ?_
 refine vc_then ?_
 refine vc_seq ?_
 refine vc_region ?_
 refine vp ?_
 refine vc_y (y_ext (g := Extern.MathFloatBits.float64bits) Tryz.func140 rfl (by kernel_rfl) (by kernel_rfl) (by kernel_rfl) rfl [_] rfl (.int .u64 (b : Int)) (fun w => rfl)) rfl ?_
 refine vp ?_
 refine vc_nil ?_
 refine vc_then ?_
 refine vc_seq ?_
 refine vc_region ?_
 iterate 3 refine vp ?_
 refine vc_y (y_quo ((b / 4503599627370496 : Nat) : Int) rfl rfl (by decide) (by rw [show (4503599627370496 : Int) = ((4503599627370496 : Nat) : Int) from rfl, tdiv_nat]; exact wrapU64 (by omega) (by omega))) rfl ?_
 refine vc_y (y_rem ((b / 4503599627370496 % 2048 : Nat) : Int) rfl rfl (by decide) (tmod_nat _ 2048)) rfl ?_
 refine vp ?_
 refine vc_y (y_rem ((b % 4503599627370496 : Nat) : Int) rfl rfl (by decide) (tmod_nat _ 4503599627370496)) rfl ?_
 iterate 3 refine vp ?_
 refine vc_nil ?_
 refine vc_then ?_
 refine vc_ret ?_
 exact vc_end3 Tryz.results175 rfl rfl rfl _ (ent_pick [] rfl) ⟨rfl, rfl⟩
theorem refNaN_spec {b : Nat} (hb : b ≤ 18446744073709551615) : Does Tryz.prog 139 [.float .f64 b] [] (fun v l => v = .bool (nanB b) ∧ l = []) := by
 refine spec_of Tryz.func139 rfl Tryz.ntmps139 Tryz.results139 _ (by simp) fun ι F => ?_
 have hnp := nan_parts hb
 refine vc_seq ?_
 refine vc_region ?_
 refine vp ?_
 refine vc_nil ?_
 refine vc_then ?_
 refine vc_seq ?_
 refine vc_region ?_
 refine vp ?_
 refine vc_callv ca_175 (us := []) (vs := []) rfl [_] rfl [] rfl (parts_spec hb) rfl ?_
 rintro _ _ ⟨rfl, rfl⟩
 iterate 7 refine vp ?_
 refine vc_nil ?_
 refine vc_then ?_
 refine vc_seq ?_
 refine vc_region ?_
 iterate 3 refine vp ?_
 first | refine vc_splitP 14 rfl (fun c14 => ?_) (fun c14 => ?_) | refine vc_splitN 14 rfl (fun c14 => ?_) (fun c14 => ?_) | refine vc_split 14 rfl (fun c14 => ?_) (fun c14 => ?_)
 ·skip
  refine vc_guardT 14 rfl rfl ?_
  refine vp ?_
  refine vc_guardT 14 rfl rfl ?_
  iterate 3 refine vp ?_
  refine vc_nil ?_
  refine vc_then ?_
  refine vc_ret ?_
  exact vc_end1 Tryz.results139 rfl _ (ent_pick [] rfl) ⟨by rw [← hnp]; first | (rw [decide_eq_true c14, Bool.true_and]) | (rw [decide_eq_false c14]; rfl), rfl⟩
 ·skip
  refine vc_guardF 14 rfl rfl rfl rfl ?_
  refine vc_guardF 14 rfl rfl rfl rfl ?_
  refine vp ?_
  refine vp ?_
  refine vc_nil ?_
  refine vc_then ?_
  refine vc_ret ?_
  exact vc_end1 Tryz.results139 rfl _ (ent_pick [] rfl) ⟨by rw [← hnp]; first | (rw [decide_eq_true c14, Bool.true_and]) | (rw [decide_eq_false c14]; rfl), rfl⟩
theorem refBits_spec {b : Nat} (hb : b ≤ 18446744073709551615) : Does Tryz.prog 103 [.float .f64 b] [] (fun v l => v = .int .u64 ((canonB b : Nat) : Int) ∧ l = []) := by
 refine spec_of Tryz.func103 rfl Tryz.ntmps103 Tryz.results103 _ (by simp) fun ι F => ?_
 refine vc_seq ?_
 refine vc_region ?_
 refine vp ?_
 refine vc_nil ?_
 refine vc_then ?_
 refine vc_seq ?_
 refine vc_seq ?_
 refine vc_region ?_
 refine vp ?_
 refine vc_callv ca_139 (us := []) (vs := []) rfl [_] rfl [] rfl (refNaN_spec hb) rfl ?_
 rintro _ _ ⟨rfl, rfl⟩
 refine vc_nil ?_
 refine vc_then ?_
 first | refine vc_condP rfl (fun c4 => ?_) (fun c4 => ?_) | refine vc_condN rfl (fun c4 => ?_) (fun c4 => ?_) | refine vc_cond rfl (fun c4 => ?_) (fun c4 => ?_)
 ·skip
  refine vc_seq ?_
  refine vc_region ?_
  refine vp ?_
  refine vc_nil ?_
  refine vc_then ?_
  refine vc_ret ?_
  refine vc_thenRet ?_
  exact vc_end1 Tryz.results103 rfl _ (ent_pick [] rfl) ⟨by simp [canonB, nanB, c4], rfl⟩
 ·skip
  refine vc_skip ?_
  refine vc_then ?_
  refine vc_seq ?_
  refine vc_region ?_
  refine vp ?_
  refine vc_y (y_ext (g := Extern.MathFloatBits.float64bits) Tryz.func140 rfl (by kernel_rfl) (by kernel_rfl) (by kernel_rfl) rfl [_] rfl (.int .u64 (b : Int)) (fun w => rfl)) rfl ?_
  refine vp ?_
  refine vc_nil ?_
  refine vc_then ?_
  refine vc_ret ?_
  exact vc_end1 Tryz.results103 rfl _ (ent_pick [] rfl) ⟨by simp [canonB, nanB, c4], rfl⟩
theorem refVRight_spec (x : Val) (hx : 0 ≤ x.bits ∧ x.bits ≤ 18446744073709551615) : Does Tryz.prog 41 [.agg #[.bool x.num, .string x.text, .int .u64 x.bits]] [] (fun v l => v = .bool (valRight x) ∧ l = []) := by
 refine spec_of Tryz.func41 rfl Tryz.ntmps41 Tryz.results41 _ (by simp) fun ι F => ?_
 refine vc_seq ?_
 refine vc_region ?_
 refine vc_box [_, _, _] rfl rfl rfl (fun b1 => ?_)
 refine vp ?_
 refine vc_nil ?_
 refine vc_then ?_
 refine vc_seq ?_
 refine vc_seq ?_
 refine vc_region ?_
 refine vc_y (y_fieldP fl_45_0 0 rfl rfl) rfl ?_
 refine vc_y (y_load1 0 rfl one_4 rfl (Pts.vis rfl)) rfl ?_
 refine vp ?_
 refine vc_nil ?_
 refine vc_then ?_
 first | refine vc_condP rfl (fun c5 => ?_) (fun c5 => ?_) | refine vc_condN rfl (fun c5 => ?_) (fun c5 => ?_) | refine vc_cond rfl (fun c5 => ?_) (fun c5 => ?_)
 ·skip
  have hn : x.num = false := notT0 c5
  refine vc_seq ?_
  refine vc_region ?_
  refine vc_y (y_fieldP fl_45_2 2 rfl rfl) rfl ?_
  refine vc_y (y_load1 0 rfl one_34 rfl (Pts.vis rfl)) rfl ?_
  refine vp ?_
  refine vp ?_
  first | refine vc_splitP 9 rfl (fun c9 => ?_) (fun c9 => ?_) | refine vc_splitN 9 rfl (fun c9 => ?_) (fun c9 => ?_) | refine vc_split 9 rfl (fun c9 => ?_) (fun c9 => ?_)
  ·skip
   refine vc_guardT 9 rfl rfl ?_
   refine vc_y (y_fieldP fl_45_1 1 rfl rfl) rfl ?_
   refine vc_guardT 9 rfl rfl ?_
   refine vc_y (y_load1 0 rfl one_9 rfl (Pts.vis rfl)) rfl ?_
   refine vc_guardT 9 rfl rfl ?_
   refine vc_y (y_strLen Tryz.underlying9 rfl) rfl ?_
   refine vc_guardT 9 rfl rfl ?_
   iterate 3 refine vp ?_
   refine vc_nil ?_
   refine vc_then ?_
   refine vc_ret ?_
   refine vc_thenRet ?_
   exact vc_end1 Tryz.results41 rfl _ (ent_pick [] rfl) ⟨by simp [valRight, hn, *], rfl⟩
  ·skip
   refine vc_guardF 9 rfl rfl rfl rfl ?_
   refine vc_guardF 9 rfl rfl rfl rfl ?_
   refine vc_guardF 9 rfl rfl rfl rfl ?_
   refine vc_guardF 9 rfl rfl rfl rfl ?_
   refine vp ?_
   refine vp ?_
   refine vc_nil ?_
   refine vc_then ?_
   refine vc_ret ?_
   refine vc_thenRet ?_
   exact vc_end1 Tryz.results41 rfl _ (ent_pick [] rfl) ⟨by simp [valRight, hn, *], rfl⟩
 ·skip
  have hn : x.num = true := notF0 c5
  refine vc_skip ?_
  refine vc_then ?_
  refine vc_seq ?_
  refine vc_draw (by kernel_rfl) _ none [0] rfl ?_
  refine tp 0 rfl (by exact y_fieldP fl_45_1 1 rfl rfl) ?_
  refine tk 1 rfl (by exact y_load1 0 rfl one_9 rfl (Pts.vis rfl)) ?_
  refine tp 2 rfl (by exact y_strLen Tryz.underlying9 rfl) ?_
  refine tpp 3 ?_
  refine tpp 4 ?_
  first | refine va_splitP 19 rfl (fun c19 => ?_) (fun c19 => ?_) | refine va_splitN 19 rfl (fun c19 => ?_) (fun c19 => ?_) | refine va_split 19 rfl (fun c19 => ?_) (fun c19 => ?_)
  ·skip
   have ht : sEq x.text ⟨#[]⟩ = true := (size0 _).1 (by omega)
   refine tg 5 19 rfl (by exact y_fieldP fl_45_2 2 rfl rfl) ?_
   refine tkg 6 19 rfl (by exact y_load1 0 rfl one_34 rfl (Pts.vis rfl)) ?_
   refine tg 9 19 rfl (by exact y_fieldP fl_45_2 2 rfl rfl) ?_
   refine tkg 10 19 rfl (by exact y_load1 0 rfl one_34 rfl (Pts.vis rfl)) ?_
   refine va_ready [7] (by kernel_rfl) rfl ?_
   refine vo_cons rfl (fun hC0 => ?_) ?_
   ·skip
    refine vc_guardT 19 rfl rfl ?_
    refine vc_y (y_ext (g := Extern.MathFloatBits.float64frombits) Tryz.func104 rfl (by kernel_rfl) (by kernel_rfl) (by kernel_rfl) rfl [_] rfl (.float .f64 x.bits.toNat) (fun w => rfl)) rfl ?_
    refine vc_nil ?_
    refine vc_then ?_
    refine va_kept hC0 [0] rfl ?_
    clear hC0
    refine va_ready [8] (by kernel_rfl) rfl ?_
    refine vo_cons rfl (fun hC0 => ?_) ?_
    ·skip
     refine vc_guardT 19 rfl rfl ?_
     refine vc_callv ca_103 (us := []) (vs := []) rfl [_] rfl [] rfl (refBits_spec (b := x.bits.toNat) (by omega)) rfl ?_
     rintro _ _ ⟨rfl, rfl⟩
     refine vc_nil ?_
     refine vc_then ?_
     refine va_kept hC0 [0] rfl ?_
     clear hC0
     refine tgp 11 19 ?_
     refine tpp 12 ?_
     refine tpp 13 ?_
     refine va_done (by kernel_rfl) ?_
     refine vc_then ?_
     refine vc_ret ?_
     exact vc_end1 Tryz.results41 rfl _ (ent_pick [] rfl) ⟨by simp [valRight, hn, *], rfl⟩
    exact vo_nil
   exact vo_nil
  ·skip
   have ht : sEq x.text ⟨#[]⟩ = false := by
    cases h0 : sEq x.text ⟨#[]⟩ with
    | false => rfl
    | true => exact absurd ((size0 _).2 h0) (by omega)
   refine sk 5 19 ?_
   refine sk 6 19 ?_
   refine sk 7 19 ?_
   refine sk 8 19 ?_
   refine sk 9 19 ?_
   refine sk 10 19 ?_
   refine sk 11 19 ?_
   refine tpp 12 ?_
   refine tpp 13 ?_
   refine va_done (by kernel_rfl) ?_
   refine vc_then ?_
   refine vc_ret ?_
   exact vc_end1 Tryz.results41 rfl _ (ent_pick [] rfl) ⟨by simp [valRight, hn, *], rfl⟩
end Go.Proofs.YtcpbibdbahfgaaaGreat
/-
 The references of keys, values, chains.
-/
set_option linter.unusedVariables false
set_option linter.unusedSimpArgs false
set_option autoImplicit false
set_option maxHeartbeats 4000000
namespace Go.Proofs.YtcpbibdbahfgaaaGreat
open Go.Eng
namespace FRef2
theorem ca_175 : Callable Tryz.prog 175 := ⟨_, _, Tryz.func175, rfl, rfl⟩
theorem ca_139 : Callable Tryz.prog 139 := ⟨_, _, Tryz.func139, rfl, rfl⟩
theorem ca_228 : Callable Tryz.prog 228 := ⟨_, _, Tryz.func228, rfl, rfl⟩
theorem sl_107 : TySl Tryz.prog 107 5 1 := ⟨Tryz.underlying107, by kernel_rfl⟩
theorem sz_5 : (Tryz.prog.info? 5).map (·.size) = some 1 := by kernel_rfl
theorem fl_45_0 : Fld Tryz.prog 45 0 0 := ⟨_, _, 0, Tryz.underlying45, rfl, rfl, by kernel_rfl⟩
theorem one_4 : TyOne Tryz.prog 4 := ⟨⟨_, Tryz.underlying4, rfl⟩, by kernel_rfl⟩
theorem fl_45_2 : Fld Tryz.prog 45 2 2 := ⟨_, _, 0, Tryz.underlying45, rfl, rfl, by kernel_rfl⟩
theorem one_34 : TyOne Tryz.prog 34 := ⟨⟨_, Tryz.underlying34, rfl⟩, by kernel_rfl⟩
theorem ze_5 : (Tryz.prog.info? 5).map (·.zero) = some (some (.int .u8 0)) := by kernel_rfl
theorem bs_107_1 (v0 : Value) (h0 : v0.cells = #[v0]) (w : World) : (Instr.buildSlice 107 1 #[(0, v0)]).run Tryz.prog w = .ok (.slice (some ⟨w.heap.size, 0, none⟩) 1 1) { w with heap := w.heap.push (.cells #[v0] 5 (0, 0)) } :=
 Go.Eng.run_buildSlice Tryz.underlying107 sz_5 ze_5 (by decide) (by rw [show Array.range (1 * 1) = #[0] from by decide]; simp [Instr.fill, cells_agg, h0]) w
theorem ca_199 : Callable Tryz.prog 199 := ⟨_, _, Tryz.func199, rfl, rfl⟩
theorem fl_45_1 : Fld Tryz.prog 45 1 1 := ⟨_, _, 0, Tryz.underlying45, rfl, rfl, by kernel_rfl⟩
theorem one_9 : TyOne Tryz.prog 9 := ⟨⟨_, Tryz.underlying9, rfl⟩, by kernel_rfl⟩
theorem sl_138 : TySl Tryz.prog 138 135 5 := ⟨Tryz.underlying138, by kernel_rfl⟩
theorem fl_135_1 : Fld Tryz.prog 135 1 1 := ⟨_, _, 0, Tryz.underlying135, rfl, rfl, by kernel_rfl⟩
theorem fl_135_2 : Fld Tryz.prog 135 2 2 := ⟨_, _, 2, Tryz.underlying135, rfl, rfl, by kernel_rfl⟩
theorem ag_45 : TyAgg Tryz.prog 45 3 := ⟨⟨_, Tryz.underlying45, rfl⟩, by kernel_rfl⟩
theorem ca_172 : Callable Tryz.prog 172 := ⟨_, _, Tryz.func172, rfl, rfl⟩
theorem ze_135 : (Tryz.prog.info? 135).map (·.zero) = some (some (.agg #[.int .i64 0, .bool false, .bool false, .string ⟨#[]⟩, .int .u64 0])) := by kernel_rfl
theorem bu_135_n   (w : World) : (Instr.build 135 #[]).run Tryz.prog w = .ok (.agg #[.int .i64 0, .bool false, .bool false, .string ⟨#[]⟩, .int .u64 0]) w := by
 have hz := @ze_135
 exact Go.Eng.run_build (pl := [(0, 1), (1, 1), (2, 3)]) hz Tryz.underlying135 (by kernel_rfl) rfl (by simp [Instr.fill, cells_agg]) w
theorem sz_135 : (Tryz.prog.info? 135).map (·.size) = some 5 := by kernel_rfl
theorem fl_135_0 : Fld Tryz.prog 135 0 0 := ⟨_, _, 0, Tryz.underlying135, rfl, rfl, by kernel_rfl⟩
theorem one_3 : TyOne Tryz.prog 3 := ⟨⟨_, Tryz.underlying3, rfl⟩, by kernel_rfl⟩
theorem ag_135 : TyAgg Tryz.prog 135 5 := ⟨⟨_, Tryz.underlying135, rfl⟩, by kernel_rfl⟩
theorem bs_138_0   (w : World) : (Instr.buildSlice 138 0 #[]).run Tryz.prog w = .ok (.slice (some ⟨w.heap.size, 0, none⟩) 0 0) { w with heap := w.heap.push (.cells #[] 135 (0, 0)) } :=
 Go.Eng.run_buildSlice Tryz.underlying138 sz_135 ze_135 (by decide) (by rw [show Array.range (0 * 5) = #[] from by decide]; simp [Instr.fill, cells_agg]) w
theorem bs_138_1 (v0_0 v0_1 v0_2 v0_3 v0_4 : Value)  (w : World) : (Instr.buildSlice 138 1 #[(0, .agg #[v0_0, v0_1, v0_2, v0_3, v0_4])]).run Tryz.prog w = .ok (.slice (some ⟨w.heap.size, 0, none⟩) 1 1) { w with heap := w.heap.push (.cells #[v0_0, v0_1, v0_2, v0_3, v0_4] 135 (0, 0)) } :=
 Go.Eng.run_buildSlice Tryz.underlying138 sz_135 ze_135 (by decide) (by rw [show Array.range (1 * 5) = #[0, 1, 2, 3, 4] from by decide]; simp [Instr.fill, cells_agg]) w
theorem el_138_eVer : TyEl Tryz.prog 138 eVer 48 := ⟨Tryz.underlying138, .agg #[.int .i64 0, .bool false, .bool false, .string ⟨#[]⟩, .int .u64 0], by kernel_rfl, rfl⟩
end FRef2
open FRef2
theorem parts_any {b : Nat} : Does Tryz.prog 175 [.float .f64 b] [] (fun v l => ∃ p q r, v = .tuple #[.bool p, .int .u64 q, .int .u64 r] ∧ l = []) := by
 refine spec_of Tryz.func175 rfl Tryz.ntmps175 Tryz.results175 _ (by simp) fun ι F => ?_
 refine vc_seq ?_
 refine vc_region ?_
 iterate 3 refine vp ?_
 refine vc_nil ?_
 refine vc_then ?_
 refine vc_seq ?_
 refine vc_region ?_
 refine vp ?_
 refine vc_y (y_ext (g := Extern.MathFloatBits.float64bits) Tryz.func140 rfl (by kernel_rfl) (by kernel_rfl) (by kernel_rfl) rfl [_] rfl (.int .u64 (b : Int)) (fun w => rfl)) rfl ?_
 refine vp ?_
 refine vc_nil ?_
 refine vc_then ?_
 refine vc_seq ?_
 refine vc_region ?_
 iterate 3 refine vp ?_
 refine vc_y (y_quo _ rfl rfl (by decide) rfl) rfl ?_
 refine vc_y (y_rem _ rfl rfl (by decide) rfl) rfl ?_
 refine vp ?_
 refine vc_y (y_rem _ rfl rfl (by decide) rfl) rfl ?_
 iterate 3 refine vp ?_
 refine vc_nil ?_
 refine vc_then ?_
 refine vc_ret ?_
 exact vc_end3 Tryz.results175 rfl rfl rfl _ (ent_pick [] rfl) ⟨_, _, _, rfl, rfl⟩
theorem refNaN_any {b : Nat} : Does Tryz.prog 139 [.float .f64 b] [] (fun v l => ∃ t, v = .bool t ∧ l = []) := by
 refine spec_of Tryz.func139 rfl Tryz.ntmps139 Tryz.results139 _ (by simp) fun ι F => ?_
 refine vc_seq ?_
 refine vc_region ?_
 refine vp ?_
 refine vc_nil ?_
 refine vc_then ?_
 refine vc_seq ?_
 refine vc_region ?_
 refine vp ?_
 refine vc_callv ca_175 (us := []) (vs := []) rfl [_] rfl [] rfl (parts_any) rfl ?_
 rintro _ _ ⟨p, q, r, rfl, rfl⟩
 iterate 7 refine vp ?_
 refine vc_nil ?_
 refine vc_then ?_
 refine vc_seq ?_
 refine vc_region ?_
 iterate 3 refine vp ?_
 first | refine vc_splitP 14 rfl (fun c14 => ?_) (fun c14 => ?_) | refine vc_splitN 14 rfl (fun c14 => ?_) (fun c14 => ?_) | refine vc_split 14 rfl (fun c14 => ?_) (fun c14 => ?_)
 ·skip
  refine vc_guardT 14 rfl rfl ?_
  refine vp ?_
  refine vc_guardT 14 rfl rfl ?_
  iterate 3 refine vp ?_
  refine vc_nil ?_
  refine vc_then ?_
  refine vc_ret ?_
  exact vc_end1 Tryz.results139 rfl _ (ent_pick [] rfl) ⟨_, rfl, rfl⟩
 ·skip
  refine vc_guardF 14 rfl rfl rfl rfl ?_
  refine vc_guardF 14 rfl rfl rfl rfl ?_
  refine vp ?_
  refine vp ?_
  refine vc_nil ?_
  refine vc_then ?_
  refine vc_ret ?_
  exact vc_end1 Tryz.results139 rfl _ (ent_pick [] rfl) ⟨_, rfl, rfl⟩
theorem refPlace_any {b : Nat} : Does Tryz.prog 228 [.float .f64 b] [] (fun v l => ∃ z, v = .int .u64 z ∧ l = []) := by
 refine spec_of Tryz.func228 rfl Tryz.ntmps228 Tryz.results228 _ (by simp) fun ι F => ?_
 refine vc_seq ?_
 refine vc_region ?_
 refine vp ?_
 refine vc_nil ?_
 refine vc_then ?_
 refine vc_seq ?_
 refine vc_seq ?_
 refine vc_region ?_
 refine vp ?_
 refine vc_callv ca_139 (us := []) (vs := []) rfl [_] rfl [] rfl (refNaN_any) rfl ?_
 rintro _ _ ⟨t, rfl, rfl⟩
 refine vc_nil ?_
 refine vc_then ?_
 first | refine vc_condP rfl (fun c8 => ?_) (fun c8 => ?_) | refine vc_condN rfl (fun c8 => ?_) (fun c8 => ?_) | refine vc_cond rfl (fun c8 => ?_) (fun c8 => ?_)
 ·skip
  refine vc_seq ?_
  refine vc_region ?_
  refine vp ?_
  refine vc_nil ?_
  refine vc_then ?_
  refine vc_ret ?_
  refine vc_thenRet ?_
  exact vc_end1 Tryz.results228 rfl _ (ent_pick [] rfl) ⟨_, rfl, rfl⟩
 ·skip
  refine vc_skip ?_
  refine vc_then ?_
  refine vc_seq ?_
  refine vc_region ?_
  refine vp ?_
  refine vc_callv ca_175 (us := []) (vs := []) rfl [_] rfl [] rfl (parts_any) rfl ?_
  rintro _ _ ⟨p, q, r, rfl, rfl⟩
  iterate 7 refine vp ?_
  refine vc_nil ?_
  refine vc_then ?_
  refine vc_seq ?_
  refine vc_region ?_
  iterate 5 refine vp ?_
  refine vc_nil ?_
  refine vc_then ?_
  refine vc_seq ?_
  refine vc_seq ?_
  refine vc_region ?_
  refine vp ?_
  refine vc_nil ?_
  refine vc_then ?_
  first | refine vc_condP rfl (fun c19 => ?_) (fun c19 => ?_) | refine vc_condN rfl (fun c19 => ?_) (fun c19 => ?_) | refine vc_cond rfl (fun c19 => ?_) (fun c19 => ?_)
  ·skip
   refine vc_seq ?_
   refine vc_region ?_
   iterate 3 refine vp ?_
   refine vc_nil ?_
   refine vc_then ?_
   refine vc_ret ?_
   refine vc_thenRet ?_
   exact vc_end1 Tryz.results228 rfl _ (ent_pick [] rfl) ⟨_, rfl, rfl⟩
  ·skip
   refine vc_skip ?_
   refine vc_then ?_
   refine vc_seq ?_
   refine vc_region ?_
   iterate 3 refine vp ?_
   refine vc_nil ?_
   refine vc_then ?_
   refine vc_ret ?_
   exact vc_end1 Tryz.results228 rfl _ (ent_pick [] rfl) ⟨_, rfl, rfl⟩
theorem refKey_any {b : Nat} : Does Tryz.prog 199 [.float .f64 b] [] (fun v l => ∃ s : ByteArray, s.size = 8 ∧ v = .string s ∧ l = []) := by
 refine spec_of Tryz.func199 rfl Tryz.ntmps199 Tryz.results199 _ (by simp) fun ι F => ?_
 refine vc_seq ?_
 refine vc_region ?_
 refine vp ?_
 refine vc_nil ?_
 refine vc_then ?_
 refine vc_seq ?_
 refine vc_region ?_
 refine vp ?_
 refine vc_callv ca_228 (us := []) (vs := []) rfl [_] rfl [] rfl (refPlace_any) rfl ?_
 rintro _ _ ⟨z, rfl, rfl⟩
 refine vp ?_
 refine vc_nil ?_
 refine vc_then ?_
 refine vc_seq ?_
 refine vc_region ?_
 refine vc_makeSlice (E := eU8) 8 (.int .u8 0) 1 Tryz.underlying107 (by kernel_rfl) rfl (z := 0) rfl rfl rfl (by decide) rfl (fun h8 => ?_)
 refine vp ?_
 refine vc_nil ?_
 refine vc_then ?_
 refine vc_seq ?_
 refine vc_seq ?_
 refine vc_region ?_
 refine vp ?_
 refine vc_nil ?_
 refine vc_then ?_
 refine vc_block ?_
 refine vc_loop (α := Int × List Int × Int) (fun xq_ => match xq_ with | (j, ys, z) => [(3, .int .u64 z), (4, h8.v), (5, .int .i64 j)]) (fun xq_ => match xq_ with | (j, ys, z) => [Sl eU8 h8 ys]) (fun xq_ => match xq_ with | (j, ys, z) => (j + 1).toNat) (fun xq_ => match xq_ with | (j, ys, z) => -1 ≤ j ∧ j ≤ 7 ∧ ys.length = 8) (7, List.replicate 8 0, z) ⟨by omega, by omega, by simp⟩ ⟨rfl, rfl, rfl, trivial⟩ (ent_pick [0] rfl) ?_
 rintro ⟨j, ys, z⟩ ⟨j1, j2, hys⟩
 show VC _ _ _ _ [(3, .int .u64 z), (4, h8.v), (5, .int .i64 j)] ([Sl eU8 h8 ys])
 refine vc_seq ?_
 refine vc_seq ?_
 refine vc_region ?_
 refine vp ?_
 refine vp ?_
 refine vc_nil ?_
 refine vc_then ?_
 first | refine vc_condP rfl (fun c10 => ?_) (fun c10 => ?_) | refine vc_condN rfl (fun c10 => ?_) (fun c10 => ?_) | refine vc_cond rfl (fun c10 => ?_) (fun c10 => ?_)
 ·skip
  refine vc_skip ?_
  refine vc_then ?_
  refine vc_seq ?_
  refine vc_block ?_
  refine vc_seq ?_
  refine vc_region ?_
  iterate 3 refine vp ?_
  refine vc_y (y_rem _ rfl rfl (by decide) rfl) rfl ?_
  refine vc_y (y_conv _ Tryz.underlying34 Tryz.underlying5 rfl rfl) rfl ?_
  refine vc_y (y_elem 0 rfl (Sl.vis) j.toNat (by omega) (by rw [hys]; omega) sl_107 rfl rfl) rfl ?_
  refine vc_storeE 0 rfl [_] _ rfl rfl rfl sz_5 rfl (List.getElem?_eq_getElem (by omega)) (Nat.le_of_ble_eq_true rfl) rfl ?_
  refine vc_nil ?_
  refine vc_then ?_
  refine vc_region ?_
  refine vp ?_
  refine vc_y (y_quo _ rfl rfl (by decide) rfl) rfl ?_
  refine vp ?_
  refine vc_nil ?_
  refine vc_inNormal ?_
  refine vc_then ?_
  refine vc_region ?_
  refine vp ?_
  first | refine vc_y (y_arith _ rfl (wrapNsub (by omega))) rfl ?_ | refine vc_y (y_arith _ rfl (wrap64 (by omega) (by omega))) rfl ?_ | refine vp ?_
  refine vp ?_
  refine vc_nil ?_
  refine vc_then ?_
  exact vc_again (x := (j, ys, z)) (j - 1, _, _) ⟨by omega, by omega, by simp [hys]⟩ (by show (j - 1 + 1).toNat < (j + 1).toNat; omega) ⟨rfl, rfl, rfl, trivial⟩ (ent_pick [0] rfl)
 ·skip
  refine vc_exit ?_
  refine vc_thenExit ?_
  refine vc_thenExit ?_
  refine vc_inExit ?_
  refine vc_then ?_
  refine vc_seq ?_
  refine vc_region ?_
  refine vc_see 0 rfl (Sl.vis.imp fun w r => r.adr) (fun hadr => ?_)
  have ha : h8.a = some ⟨h8.blk, h8.off, none⟩ := hadr.resolve_right (by rintro ⟨e, _⟩; rw [e] at hys; cases hys)
  refine vp ?_
  refine vc_y (y_bytesStr 0 rfl (E := eU8) (fun _ => rfl) (h := h8) Sl.vis ha Tryz.underlying107 Tryz.underlying5 Tryz.underlying9 rfl) rfl ?_
  refine vp ?_
  refine vc_nil ?_
  refine vc_then ?_
  refine vc_ret ?_
  exact vc_end1 Tryz.results199 rfl _ (ent_pick [] rfl) ⟨_, by rw [strOfNums_size]; exact hys, rfl, rfl⟩
theorem refPack_spec (x : Val) (hv : valRight x = true) : Does Tryz.prog 172 [.agg #[.bool x.num, .string x.text, .int .u64 x.bits]] [] (fun v l => ∃ s : ByteArray, (s.size : Int) = vWeight x ∧ v = .string s ∧ l = []) := by
 refine spec_of Tryz.func172 rfl Tryz.ntmps172 Tryz.results172 _ (by simp) fun ι F => ?_
 refine vc_seq ?_
 refine vc_region ?_
 refine vc_box [_, _, _] rfl rfl rfl (fun b1 => ?_)
 refine vp ?_
 refine vc_nil ?_
 refine vc_then ?_
 refine vc_seq ?_
 refine vc_seq ?_
 refine vc_region ?_
 refine vc_y (y_fieldP fl_45_0 0 rfl rfl) rfl ?_
 refine vc_y (y_load1 0 rfl one_4 rfl (Pts.vis rfl)) rfl ?_
 refine vc_nil ?_
 refine vc_then ?_
 first | refine vc_condP rfl (fun c4 => ?_) (fun c4 => ?_) | refine vc_condN rfl (fun c4 => ?_) (fun c4 => ?_) | refine vc_cond rfl (fun c4 => ?_) (fun c4 => ?_)
 ·skip
  have hn : x.num = true := c4
  refine vc_seq ?_
  refine vc_draw (by kernel_rfl) _ none [0] rfl ?_
  refine tp 2 rfl (by exact y_fieldP fl_45_2 2 rfl rfl) ?_
  refine tk 3 rfl (by exact y_load1 0 rfl one_34 rfl (Pts.vis rfl)) ?_
  refine va_ready [0, 4] (by kernel_rfl) rfl ?_
  refine vo_cons rfl (fun hC0 => ?_) ?_
  ·skip
   refine vc_buildSlice (E := eU8) [(0, _)] [1] rfl rfl (bs_107_1 _ rfl) rfl (fun h5 => ?_)
   refine vc_nil ?_
   refine vc_then ?_
   refine va_kept hC0 [1] rfl ?_
   clear hC0
   refine va_ready [1, 4] (by kernel_rfl) rfl ?_
   refine vo_cons rfl (fun hC0 => ?_) ?_
   ·skip
    refine vc_see 0 rfl (Sl.vis.imp fun w r => r.adr) (fun hadr => ?_)
    have ha5 : h5.a = some ⟨h5.blk, h5.off, none⟩ := hadr.resolve_right (by rintro ⟨e, _⟩; cases e)
    refine vc_y (y_bytesStr 0 rfl (E := eU8) (fun _ => rfl) (h := h5) Sl.vis ha5 Tryz.underlying107 Tryz.underlying5 Tryz.underlying9 rfl) rfl ?_
    refine vc_nil ?_
    refine vc_then ?_
    refine va_kept hC0 [1] rfl ?_
    clear hC0
    refine va_ready [4] (by kernel_rfl) rfl ?_
    refine vo_cons rfl (fun hC0 => ?_) ?_
    ·skip
     refine vc_y (y_ext (g := Extern.MathFloatBits.float64frombits) Tryz.func104 rfl (by kernel_rfl) (by kernel_rfl) (by kernel_rfl) rfl [_] rfl (.float .f64 x.bits.toNat) (fun w => rfl)) rfl ?_
     refine vc_nil ?_
     refine vc_then ?_
     refine va_kept hC0 [1] rfl ?_
     clear hC0
     refine va_ready [5] (by kernel_rfl) rfl ?_
     refine vo_cons rfl (fun hC0 => ?_) ?_
     ·skip
      refine vc_callv ca_199 (us := []) (vs := []) rfl [_] rfl [] rfl (refKey_any (b := x.bits.toNat)) rfl ?_
      rintro _ _ ⟨s, hs, rfl, rfl⟩
      refine vc_nil ?_
      refine vc_then ?_
      refine va_kept hC0 [1] rfl ?_
      clear hC0
      refine tp 6 rfl (by exact y_cat rfl rfl (by rw [hs, strOfNums_size]; simp)) ?_
      refine tpp 7 ?_
      refine va_done (by kernel_rfl) ?_
      refine vc_then ?_
      refine vc_ret ?_
      refine vc_thenRet ?_
      exact vc_end1 Tryz.results172 rfl _ (ent_pick [] rfl) ⟨_, by first | (rw [size_cat, hs, strOfNums_size]; simp [vWeight, hv, hn]; done) | (rw [size_cat, strOfNums_size]; simp [vWeight, hv, hn]; try omega), rfl, rfl⟩
     exact vo_nil
    exact vo_nil
   refine vo_cons rfl (fun hC0 => ?_) ?_
   ·skip
    refine vc_y (y_ext (g := Extern.MathFloatBits.float64frombits) Tryz.func104 rfl (by kernel_rfl) (by kernel_rfl) (by kernel_rfl) rfl [_] rfl (.float .f64 x.bits.toNat) (fun w => rfl)) rfl ?_
    refine vc_nil ?_
    refine vc_then ?_
    refine va_kept hC0 [1] rfl ?_
    clear hC0
    refine va_ready [1, 5] (by kernel_rfl) rfl ?_
    refine vo_cons rfl (fun hC0 => ?_) ?_
    ·skip
     refine vc_see 0 rfl (Sl.vis.imp fun w r => r.adr) (fun hadr => ?_)
     have ha5 : h5.a = some ⟨h5.blk, h5.off, none⟩ := hadr.resolve_right (by rintro ⟨e, _⟩; cases e)
     refine vc_y (y_bytesStr 0 rfl (E := eU8) (fun _ => rfl) (h := h5) Sl.vis ha5 Tryz.underlying107 Tryz.underlying5 Tryz.underlying9 rfl) rfl ?_
     refine vc_nil ?_
     refine vc_then ?_
     refine va_kept hC0 [1] rfl ?_
     clear hC0
     refine va_ready [5] (by kernel_rfl) rfl ?_
     refine vo_cons rfl (fun hC0 => ?_) ?_
     ·skip
      refine vc_callv ca_199 (us := []) (vs := []) rfl [_] rfl [] rfl (refKey_any (b := x.bits.toNat)) rfl ?_
      rintro _ _ ⟨s, hs, rfl, rfl⟩
      refine vc_nil ?_
      refine vc_then ?_
      refine va_kept hC0 [1] rfl ?_
      clear hC0
      refine tp 6 rfl (by exact y_cat rfl rfl (by rw [hs, strOfNums_size]; simp)) ?_
      refine tpp 7 ?_
      refine va_done (by kernel_rfl) ?_
      refine vc_then ?_
      refine vc_ret ?_
      refine vc_thenRet ?_
      exact vc_end1 Tryz.results172 rfl _ (ent_pick [] rfl) ⟨_, by first | (rw [size_cat, hs, strOfNums_size]; simp [vWeight, hv, hn]; done) | (rw [size_cat, strOfNums_size]; simp [vWeight, hv, hn]; try omega), rfl, rfl⟩
     exact vo_nil
    refine vo_cons rfl (fun hC0 => ?_) ?_
    ·skip
     refine vc_callv ca_199 (us := []) (vs := []) rfl [_] rfl [] rfl (refKey_any (b := x.bits.toNat)) rfl ?_
     rintro _ _ ⟨s, hs, rfl, rfl⟩
     refine vc_nil ?_
     refine vc_then ?_
     refine va_kept hC0 [1] rfl ?_
     clear hC0
     refine va_ready [1] (by kernel_rfl) rfl ?_
     refine vo_cons rfl (fun hC0 => ?_) ?_
     ·skip
      refine vc_see 0 rfl (Sl.vis.imp fun w r => r.adr) (fun hadr => ?_)
      have ha5 : h5.a = some ⟨h5.blk, h5.off, none⟩ := hadr.resolve_right (by rintro ⟨e, _⟩; cases e)
      refine vc_y (y_bytesStr 0 rfl (E := eU8) (fun _ => rfl) (h := h5) Sl.vis ha5 Tryz.underlying107 Tryz.underlying5 Tryz.underlying9 rfl) rfl ?_
      refine vc_nil ?_
      refine vc_then ?_
      refine va_kept hC0 [1] rfl ?_
      clear hC0
      refine tp 6 rfl (by exact y_cat rfl rfl (by rw [hs, strOfNums_size]; simp)) ?_
      refine tpp 7 ?_
      refine va_done (by kernel_rfl) ?_
      refine vc_then ?_
      refine vc_ret ?_
      refine vc_thenRet ?_
      exact vc_end1 Tryz.results172 rfl _ (ent_pick [] rfl) ⟨_, by first | (rw [size_cat, hs, strOfNums_size]; simp [vWeight, hv, hn]; done) | (rw [size_cat, strOfNums_size]; simp [vWeight, hv, hn]; try omega), rfl, rfl⟩
     exact vo_nil
    exact vo_nil
   exact vo_nil
  refine vo_cons rfl (fun hC0 => ?_) ?_
  ·skip
   refine vc_y (y_ext (g := Extern.MathFloatBits.float64frombits) Tryz.func104 rfl (by kernel_rfl) (by kernel_rfl) (by kernel_rfl) rfl [_] rfl (.float .f64 x.bits.toNat) (fun w => rfl)) rfl ?_
   refine vc_nil ?_
   refine vc_then ?_
   refine va_kept hC0 [0] rfl ?_
   clear hC0
   refine va_ready [0, 5] (by kernel_rfl) rfl ?_
   refine vo_cons rfl (fun hC0 => ?_) ?_
   ·skip
    refine vc_buildSlice (E := eU8) [(0, _)] [1] rfl rfl (bs_107_1 _ rfl) rfl (fun h5 => ?_)
    refine vc_nil ?_
    refine vc_then ?_
    refine va_kept hC0 [1] rfl ?_
    clear hC0
    refine va_ready [1, 5] (by kernel_rfl) rfl ?_
    refine vo_cons rfl (fun hC0 => ?_) ?_
    ·skip
     refine vc_see 0 rfl (Sl.vis.imp fun w r => r.adr) (fun hadr => ?_)
     have ha5 : h5.a = some ⟨h5.blk, h5.off, none⟩ := hadr.resolve_right (by rintro ⟨e, _⟩; cases e)
     refine vc_y (y_bytesStr 0 rfl (E := eU8) (fun _ => rfl) (h := h5) Sl.vis ha5 Tryz.underlying107 Tryz.underlying5 Tryz.underlying9 rfl) rfl ?_
     refine vc_nil ?_
     refine vc_then ?_
     refine va_kept hC0 [1] rfl ?_
     clear hC0
     refine va_ready [5] (by kernel_rfl) rfl ?_
     refine vo_cons rfl (fun hC0 => ?_) ?_
     ·skip
      refine vc_callv ca_199 (us := []) (vs := []) rfl [_] rfl [] rfl (refKey_any (b := x.bits.toNat)) rfl ?_
      rintro _ _ ⟨s, hs, rfl, rfl⟩
      refine vc_nil ?_
      refine vc_then ?_
      refine va_kept hC0 [1] rfl ?_
      clear hC0
      refine tp 6 rfl (by exact y_cat rfl rfl (by rw [hs, strOfNums_size]; simp)) ?_
      refine tpp 7 ?_
      refine va_done (by kernel_rfl) ?_
      refine vc_then ?_
      refine vc_ret ?_
      refine vc_thenRet ?_
      exact vc_end1 Tryz.results172 rfl _ (ent_pick [] rfl) ⟨_, by first | (rw [size_cat, hs, strOfNums_size]; simp [vWeight, hv, hn]; done) | (rw [size_cat, strOfNums_size]; simp [vWeight, hv, hn]; try omega), rfl, rfl⟩
     exact vo_nil
    refine vo_cons rfl (fun hC0 => ?_) ?_
    ·skip
     refine vc_callv ca_199 (us := []) (vs := []) rfl [_] rfl [] rfl (refKey_any (b := x.bits.toNat)) rfl ?_
     rintro _ _ ⟨s, hs, rfl, rfl⟩
     refine vc_nil ?_
     refine vc_then ?_
     refine va_kept hC0 [1] rfl ?_
     clear hC0
     refine va_ready [1] (by kernel_rfl) rfl ?_
     refine vo_cons rfl (fun hC0 => ?_) ?_
     ·skip
      refine vc_see 0 rfl (Sl.vis.imp fun w r => r.adr) (fun hadr => ?_)
      have ha5 : h5.a = some ⟨h5.blk, h5.off, none⟩ := hadr.resolve_right (by rintro ⟨e, _⟩; cases e)
      refine vc_y (y_bytesStr 0 rfl (E := eU8) (fun _ => rfl) (h := h5) Sl.vis ha5 Tryz.underlying107 Tryz.underlying5 Tryz.underlying9 rfl) rfl ?_
      refine vc_nil ?_
      refine vc_then ?_
      refine va_kept hC0 [1] rfl ?_
      clear hC0
      refine tp 6 rfl (by exact y_cat rfl rfl (by rw [hs, strOfNums_size]; simp)) ?_
      refine tpp 7 ?_
      refine va_done (by kernel_rfl) ?_
      refine vc_then ?_
      refine vc_ret ?_
      refine vc_thenRet ?_
      exact vc_end1 Tryz.results172 rfl _ (ent_pick [] rfl) ⟨_, by first | (rw [size_cat, hs, strOfNums_size]; simp [vWeight, hv, hn]; done) | (rw [size_cat, strOfNums_size]; simp [vWeight, hv, hn]; try omega), rfl, rfl⟩
     exact vo_nil
    exact vo_nil
   refine vo_cons rfl (fun hC0 => ?_) ?_
   ·skip
    refine vc_callv ca_199 (us := []) (vs := []) rfl [_] rfl [] rfl (refKey_any (b := x.bits.toNat)) rfl ?_
    rintro _ _ ⟨s, hs, rfl, rfl⟩
    refine vc_nil ?_
    refine vc_then ?_
    refine va_kept hC0 [0] rfl ?_
    clear hC0
    refine va_ready [0] (by kernel_rfl) rfl ?_
    refine vo_cons rfl (fun hC0 => ?_) ?_
    ·skip
     refine vc_buildSlice (E := eU8) [(0, _)] [1] rfl rfl (bs_107_1 _ rfl) rfl (fun h5 => ?_)
     refine vc_nil ?_
     refine vc_then ?_
     refine va_kept hC0 [1] rfl ?_
     clear hC0
     refine va_ready [1] (by kernel_rfl) rfl ?_
     refine vo_cons rfl (fun hC0 => ?_) ?_
     ·skip
      refine vc_see 0 rfl (Sl.vis.imp fun w r => r.adr) (fun hadr => ?_)
      have ha5 : h5.a = some ⟨h5.blk, h5.off, none⟩ := hadr.resolve_right (by rintro ⟨e, _⟩; cases e)
      refine vc_y (y_bytesStr 0 rfl (E := eU8) (fun _ => rfl) (h := h5) Sl.vis ha5 Tryz.underlying107 Tryz.underlying5 Tryz.underlying9 rfl) rfl ?_
      refine vc_nil ?_
      refine vc_then ?_
      refine va_kept hC0 [1] rfl ?_
      clear hC0
      refine tp 6 rfl (by exact y_cat rfl rfl (by rw [hs, strOfNums_size]; simp)) ?_
      refine tpp 7 ?_
      refine va_done (by kernel_rfl) ?_
      refine vc_then ?_
      refine vc_ret ?_
      refine vc_thenRet ?_
      exact vc_end1 Tryz.results172 rfl _ (ent_pick [] rfl) ⟨_, by first | (rw [size_cat, hs, strOfNums_size]; simp [vWeight, hv, hn]; done) | (rw [size_cat, strOfNums_size]; simp [vWeight, hv, hn]; try omega), rfl, rfl⟩
     exact vo_nil
    exact vo_nil
   exact vo_nil
  exact vo_nil
 ·skip
  have hn : x.num = false := c4
  have hsz : (x.text.size : Int) ≤ 64 := by
   have := hv
   simp only [valRight, hn, Bool.false_eq_true, if_false, Bool.and_eq_true, decide_eq_true_eq] at this
   exact this.2
  refine vc_skip ?_
  refine vc_then ?_
  refine vc_seq ?_
  refine vc_region ?_
  refine vc_buildSlice (E := eU8) [(0, _)] [0] rfl rfl (bs_107_1 _ rfl) rfl (fun h12 => ?_)
  refine vc_see 0 rfl (Sl.vis.imp fun w r => r.adr) (fun hadr => ?_)
  have ha12 : h12.a = some ⟨h12.blk, h12.off, none⟩ := hadr.resolve_right (by rintro ⟨e, _⟩; cases e)
  refine vc_y (y_bytesStr 0 rfl (E := eU8) (fun _ => rfl) (h := h12) Sl.vis ha12 Tryz.underlying107 Tryz.underlying5 Tryz.underlying9 rfl) rfl ?_
  refine vc_y (y_fieldP fl_45_1 1 rfl rfl) rfl ?_
  refine vc_y (y_load1 1 rfl one_9 rfl (Pts.vis rfl)) rfl ?_
  refine vc_y (y_cat rfl rfl (by rw [strOfNums_size]; simp; omega)) rfl ?_
  refine vp ?_
  refine vc_nil ?_
  refine vc_then ?_
  refine vc_ret ?_
  exact vc_end1 Tryz.results172 rfl _ (ent_pick [] rfl) ⟨_, by first | (rw [size_cat, hs, strOfNums_size]; simp [vWeight, hv, hn]; done) | (rw [size_cat, strOfNums_size]; simp [vWeight, hv, hn]; try omega), rfl, rfl⟩
theorem verRight_val {v : Ver} (h : verRight v = true) : valRight v.val = true := by
 simp only [verRight, Bool.and_eq_true] at h; exact h.2.2.1
theorem chain_val {l : List Ver} (h : chainRight l = true) {i : Nat} (hi : i < l.length) : valRight l[i].val = true := verRight_val (chainFrom_mem h _ (List.getElem_mem hi)).2
theorem sw_skip {f : Int} {l : List Ver} {i : Nat} (h : i < l.length) (h1 : i + 1 < l.length) (h2 : l[i + 1].seq ≤ f) : swGo f (l.drop i) = swGo f (l.drop (i + 1)) := by
 rw [List.drop_eq_getElem_cons h, List.drop_eq_getElem_cons h1]
 show (if l[i + 1].seq ≤ f then [] else [l[i]]) ++ _ = _
 rw [if_pos h2]; rfl
theorem sw_keep {f : Int} {l : List Ver} {i : Nat} (h : i < l.length) (h2 : ∀ h1 : i + 1 < l.length, ¬ l[i + 1].seq ≤ f) : swGo f (l.drop i) = l[i] :: swGo f (l.drop (i + 1)) := by
 rw [List.drop_eq_getElem_cons h]
 by_cases h1 : i + 1 < l.length
 ·rw [List.drop_eq_getElem_cons h1]
  show (if l[i + 1].seq ≤ f then [] else [l[i]]) ++ _ = _
  rw [if_neg (h2 h1)]; rfl
 ·rw [List.drop_eq_nil_of_le (by omega)]; rfl
theorem refWeight_spec {A : HP} {h : SH} {xs : List Ver} (hv : Vis A (Rd eVer h xs)) (hb : xs.length ≤ 1000000) (hc : chainRight xs = true) : Does Tryz.prog 136 [h.v] [A] (fun v l => v = .int .i64 (cWeight xs) ∧ l = [A]) := by
 refine spec_of Tryz.func136 rfl Tryz.ntmps136 Tryz.results136 _ (by simp) fun ι F => ?_
 refine vc_see 0 rfl (hv.imp fun w r => r.len) (fun hlen => ?_)
 refine vc_seq ?_
 refine vc_region ?_
 refine vp ?_
 refine vc_nil ?_
 refine vc_then ?_
 refine vc_seq ?_
 refine vc_seq ?_
 refine vc_region ?_
 refine vp ?_
 refine vc_y (y_len Tryz.underlying138 rfl (by first | assumption | rfl)) rfl ?_
 refine vp ?_
 refine vp ?_
 first | refine vc_splitP 6 rfl (fun c6 => ?_) (fun c6 => ?_) | refine vc_splitN 6 rfl (fun c6 => ?_) (fun c6 => ?_) | refine vc_split 6 rfl (fun c6 => ?_) (fun c6 => ?_)
 ·skip
  obtain rfl : xs = [] := List.length_eq_zero_iff.1 (by omega)
  refine vc_guardF 6 rfl rfl rfl rfl ?_
  refine vc_guardF 6 rfl rfl rfl rfl ?_
  refine vc_guardF 6 rfl rfl rfl rfl ?_
  refine vc_guardF 6 rfl rfl rfl rfl ?_
  refine vc_guardF 6 rfl rfl rfl rfl ?_
  refine vc_guardF 6 rfl rfl rfl rfl ?_
  refine vc_guardF 6 rfl rfl rfl rfl ?_
  refine vp ?_
  refine vc_nil ?_
  refine vc_then ?_
  refine vc_condT rfl ?_
  refine vc_seq ?_
  refine vc_region ?_
  refine vp ?_
  refine vc_nil ?_
  refine vc_then ?_
  refine vc_ret ?_
  refine vc_thenRet ?_
  exact vc_end1 Tryz.results136 rfl _ (ent_pick [0] rfl) ⟨by first | rfl | (simp [cWeight, hlast, c14]; done) | (simp [cWeight, hlast, c14, hs]), rfl⟩
 ·skip
  have hlast : verLast xs = some (xs[xs.length - 1]'(by omega)) := by simp only [verLast, hc, if_true]; exact List.getElem?_eq_getElem (by omega)
  refine vc_guardT 6 rfl rfl ?_
  refine vp ?_
  refine vc_guardT 6 rfl rfl ?_
  refine vp ?_
  refine vc_guardT 6 rfl rfl ?_
  refine vc_y (y_len Tryz.underlying138 rfl (by first | assumption | rfl)) rfl ?_
  refine vc_guardT 6 rfl rfl ?_
  refine vc_y (y_arith ((xs.length - 1 : Nat) : Int) rfl (wrapNsub (by omega))) rfl ?_
  refine vc_guardT 6 rfl rfl ?_
  refine vc_y (y_elem 0 rfl (hv) (xs.length - 1) rfl (by omega) sl_138 rfl rfl) rfl ?_
  refine vc_guardT 6 rfl rfl ?_
  refine vc_y (y_fieldE fl_135_1 1 rfl rfl) rfl ?_
  refine vc_guardT 6 rfl rfl ?_
  refine vc_y (y_load1 0 rfl one_4 rfl (Rd.vis1 (hv) (List.getElem?_eq_getElem (by first | assumption | omega)) rfl)) rfl ?_
  refine vp ?_
  refine vc_nil ?_
  refine vc_then ?_
  first | refine vc_condP rfl (fun c14 => ?_) (fun c14 => ?_) | refine vc_condN rfl (fun c14 => ?_) (fun c14 => ?_) | refine vc_cond rfl (fun c14 => ?_) (fun c14 => ?_)
  ·skip
   refine vc_seq ?_
   refine vc_region ?_
   refine vp ?_
   refine vc_nil ?_
   refine vc_then ?_
   refine vc_ret ?_
   refine vc_thenRet ?_
   exact vc_end1 Tryz.results136 rfl _ (ent_pick [0] rfl) ⟨by first | rfl | (simp [cWeight, hlast, c14]; done) | (simp [cWeight, hlast, c14, hs]), rfl⟩
  ·skip
   refine vc_skip ?_
   refine vc_then ?_
   refine vc_seq ?_
   refine vc_region ?_
   refine vp ?_
   refine vp ?_
   refine vc_y (y_len Tryz.underlying138 rfl (by first | assumption | rfl)) rfl ?_
   refine vc_y (y_arith ((xs.length - 1 : Nat) : Int) rfl (wrapNsub (by omega))) rfl ?_
   refine vc_y (y_elem 0 rfl (hv) (xs.length - 1) rfl (by omega) sl_138 rfl rfl) rfl ?_
   refine vc_y (y_fieldE fl_135_2 2 rfl rfl) rfl ?_
   refine vc_y (y_loadA 0 rfl (cs := [_, _, _]) ag_45 rfl (Rd.visA (hv) (List.getElem?_eq_getElem (by first | assumption | omega)) rfl)) rfl ?_
   refine vc_callv ca_172 (us := []) (vs := []) rfl [_] rfl [] rfl (refPack_spec (xs[xs.length - 1]'(by omega)).val (chain_val hc (by omega))) rfl ?_
   rintro _ _ ⟨s, hs, rfl, rfl⟩
   refine vc_y (y_strLen Tryz.underlying9 rfl) rfl ?_
   refine vp ?_
   refine vc_nil ?_
   refine vc_then ?_
   refine vc_ret ?_
   exact vc_end1 Tryz.results136 rfl _ (ent_pick [0] rfl) ⟨by first | rfl | (simp [cWeight, hlast, c14]; done) | (simp [cWeight, hlast, c14, hs]), rfl⟩
theorem refAt_spec {A : HP} {h : SH} {xs : List Ver} (hv : Vis A (Rd eVer h xs)) (hb : xs.length ≤ 1000000) (hc : chainRight xs = true) (seq : Int) : Does Tryz.prog 96 [h.v, .int .i64 seq] [A] (fun v l => v = optVer (verAt xs seq) ∧ l = [A]) := by
 refine spec_of Tryz.func96 rfl Tryz.ntmps96 Tryz.results96 _ (by simp) fun ι F => ?_
 refine vc_see 0 rfl (hv.imp fun w r => r.len) (fun hlen => ?_)
 refine vc_seq ?_
 refine vc_region ?_
 refine vc_alloc [.int .i64 0, .bool false, .bool false, .string ⟨#[]⟩, .int .u64 0] ze_135 rfl rfl (fun b4 => ?_)
 refine vp ?_
 refine vc_nil ?_
 refine vc_then ?_
 refine vc_seq ?_
 refine vc_region ?_
 refine vc_y (y_build [] [_, _, _, _, _] rfl (bu_135_n  )) rfl ?_
 refine vc_alloc [.int .i64 0, .bool false, .bool false, .string ⟨#[]⟩, .int .u64 0] ze_135 rfl rfl (fun b6 => ?_)
 refine vc_storeP 0 rfl [_, _, _, _, _] [_, _, _, _, _] rfl rfl rfl sz_135 rfl rfl rfl ?_
 refine vc_nil ?_
 refine vc_then ?_
 refine vc_seq ?_
 refine vc_region ?_
 refine vp ?_
 refine vc_nil ?_
 refine vc_then ?_
 refine vc_seq ?_
 refine vc_seq ?_
 refine vc_region ?_
 refine vp ?_
 refine vc_nil ?_
 refine vc_then ?_
 refine vc_block ?_
 refine vc_loop (α := Nat × Ver × Bool) (fun xq_ => match xq_ with | (i, x, ok) => [(0, h.v), (1, .int .i64 seq), (4, .pointer (some ⟨b4, 0, none⟩)), (6, .pointer (some ⟨b6, 0, none⟩)), (7, .bool ok), (8, .int .i64 (i : Int))]) (fun xq_ => match xq_ with | (i, x, ok) => [Pts b6 x.cs 135, Pts b4 ver0.cs 135, A]) (fun xq_ => match xq_ with | (i, x, ok) => xs.length - i) (fun xq_ => match xq_ with | (i, x, ok) => i ≤ xs.length ∧ atGo seq xs (ver0, false) = atGo seq (xs.drop i) (x, ok)) (0, ver0, false) ⟨Nat.zero_le _, rfl⟩ ⟨rfl, rfl, rfl, rfl, rfl, rfl, trivial⟩ (ent_pick [0, 0, 0] rfl) ?_
 rintro ⟨i, x, ok⟩ ⟨hi, hst⟩
 show VC _ _ _ _ [(0, h.v), (1, .int .i64 seq), (4, .pointer (some ⟨b4, 0, none⟩)), (6, .pointer (some ⟨b6, 0, none⟩)), (7, .bool ok), (8, .int .i64 (i : Int))] ([Pts b6 x.cs 135, Pts b4 ver0.cs 135, A])
 refine vc_seq ?_
 refine vc_seq ?_
 refine vc_region ?_
 refine vp ?_
 refine vp ?_
 refine vc_y (y_len Tryz.underlying138 rfl (by first | assumption | rfl)) rfl ?_
 refine vp ?_
 refine vc_nil ?_
 refine vc_then ?_
 first | refine vc_condP rfl (fun c13 => ?_) (fun c13 => ?_) | refine vc_condN rfl (fun c13 => ?_) (fun c13 => ?_) | refine vc_cond rfl (fun c13 => ?_) (fun c13 => ?_)
 ·skip
  have hi2 : i < xs.length := by omega
  refine vc_skip ?_
  refine vc_then ?_
  refine vc_seq ?_
  refine vc_block ?_
  refine vc_seq ?_
  refine vc_region ?_
  refine vp ?_
  refine vp ?_
  refine vc_y (y_elem 2 rfl (hv) i rfl hi2 sl_138 rfl rfl) rfl ?_
  refine vc_y (y_fieldE fl_135_0 0 rfl rfl) rfl ?_
  refine vc_y (y_load1 2 rfl one_3 rfl (Rd.vis1 (hv) (List.getElem?_eq_getElem (by first | assumption | omega)) rfl)) rfl ?_
  refine vp ?_
  refine vp ?_
  refine vc_nil ?_
  refine vc_then ?_
  first | refine vc_condP rfl (fun c22 => ?_) (fun c22 => ?_) | refine vc_condN rfl (fun c22 => ?_) (fun c22 => ?_) | refine vc_cond rfl (fun c22 => ?_) (fun c22 => ?_)
  ·skip
   refine vc_seq ?_
   refine vc_region ?_
   refine vp ?_
   refine vp ?_
   refine vc_y (y_elem 2 rfl (hv) i rfl hi2 sl_138 rfl rfl) rfl ?_
   refine vc_y (y_loadA 2 rfl (cs := [_, _, _, _, _]) ag_135 rfl (Rd.visA (hv) (List.getElem?_eq_getElem (by first | assumption | omega)) rfl)) rfl ?_
   refine vc_storeP 0 rfl [_, _, _, _, _] [_, _, _, _, _] rfl rfl rfl sz_135 rfl rfl rfl ?_
   refine vc_nil ?_
   refine vc_then ?_
   refine vc_region ?_
   refine vc_y (y_fieldP fl_135_1 1 rfl rfl) rfl ?_
   refine vc_y (y_load1 0 rfl one_4 rfl (Pts.vis rfl)) rfl ?_
   refine vp ?_
   refine vp ?_
   refine vc_nil ?_
   refine vc_inNormal ?_
   refine vc_then ?_
   refine vc_region ?_
   refine vp ?_
   first | refine vc_y (y_arith _ rfl (wrapNadd (by omega))) rfl ?_ | refine vc_y (y_arith _ rfl (wrap64 (by omega) (by omega))) rfl ?_ | refine vp ?_
   refine vp ?_
   refine vc_nil ?_
   refine vc_then ?_
   first | exact vc_again (x := (i, x, ok)) (i + 1, xs[i], !xs[i].gone) ⟨hi2, by rw [hst, List.drop_eq_getElem_cons hi2]; simp only [atGo]; rw [if_pos c22]⟩ (by show xs.length - (i + 1) < xs.length - i; omega) ⟨rfl, rfl, rfl, rfl, rfl, rfl, trivial⟩ (ent_pick [0, 0, 0] rfl) | exact vc_again (x := (i, x, ok)) (i + 1, x, ok) ⟨hi2, by rw [hst, List.drop_eq_getElem_cons hi2]; simp only [atGo]; rw [if_neg c22]⟩ (by show xs.length - (i + 1) < xs.length - i; omega) ⟨rfl, rfl, rfl, rfl, rfl, rfl, trivial⟩ (ent_pick [0, 0, 0] rfl)
  ·skip
   refine vc_skip ?_
   refine vc_inNormal ?_
   refine vc_then ?_
   refine vc_region ?_
   refine vp ?_
   first | refine vc_y (y_arith _ rfl (wrapNadd (by omega))) rfl ?_ | refine vc_y (y_arith _ rfl (wrap64 (by omega) (by omega))) rfl ?_ | refine vp ?_
   refine vp ?_
   refine vc_nil ?_
   refine vc_then ?_
   first | exact vc_again (x := (i, x, ok)) (i + 1, xs[i], !xs[i].gone) ⟨hi2, by rw [hst, List.drop_eq_getElem_cons hi2]; simp only [atGo]; rw [if_pos c22]⟩ (by show xs.length - (i + 1) < xs.length - i; omega) ⟨rfl, rfl, rfl, rfl, rfl, rfl, trivial⟩ (ent_pick [0, 0, 0] rfl) | exact vc_again (x := (i, x, ok)) (i + 1, x, ok) ⟨hi2, by rw [hst, List.drop_eq_getElem_cons hi2]; simp only [atGo]; rw [if_neg c22]⟩ (by show xs.length - (i + 1) < xs.length - i; omega) ⟨rfl, rfl, rfl, rfl, rfl, rfl, trivial⟩ (ent_pick [0, 0, 0] rfl)
 ·skip
  obtain rfl : i = xs.length := by omega
  rw [List.drop_length] at hst
  refine vc_exit ?_
  refine vc_thenExit ?_
  refine vc_thenExit ?_
  refine vc_inExit ?_
  refine vc_then ?_
  refine vc_seq ?_
  refine vc_seq ?_
  refine vc_region ?_
  refine vp ?_
  refine vp ?_
  refine vc_nil ?_
  refine vc_then ?_
  first | refine vc_condP rfl (fun c31 => ?_) (fun c31 => ?_) | refine vc_condN rfl (fun c31 => ?_) (fun c31 => ?_) | refine vc_cond rfl (fun c31 => ?_) (fun c31 => ?_)
  ·skip
   refine vc_seq ?_
   refine vc_region ?_
   refine vc_y (y_build [] [_, _, _, _, _] rfl (bu_135_n  )) rfl ?_
   refine vc_storeP 1 rfl [_, _, _, _, _] [_, _, _, _, _] rfl rfl rfl sz_135 rfl rfl rfl ?_
   refine vp ?_
   refine vc_nil ?_
   refine vc_then ?_
   refine vc_ret ?_
   refine vc_thenRet ?_
   exact vc_endR Tryz.results96 (resL_cons (res_a 1 rfl (cs := [_, _, _, _, _]) ag_135 rfl (Pts.visA rfl)) (resL_cons (res_t rfl) (resL_nil))) _ (ent_pick [2] rfl) ⟨by rw [← atGo_ver hc seq, hst]; simp only [atGo]; rw [show ok = false by simpa using c31]; rfl, rfl⟩
  ·skip
   refine vc_skip ?_
   refine vc_then ?_
   refine vc_seq ?_
   refine vc_region ?_
   refine vc_y (y_loadA 0 rfl (cs := [_, _, _, _, _]) ag_135 rfl (Pts.visA rfl)) rfl ?_
   refine vc_storeP 1 rfl [_, _, _, _, _] [_, _, _, _, _] rfl rfl rfl sz_135 rfl rfl rfl ?_
   refine vp ?_
   refine vc_nil ?_
   refine vc_then ?_
   refine vc_ret ?_
   exact vc_endR Tryz.results96 (resL_cons (res_a 1 rfl (cs := [_, _, _, _, _]) ag_135 rfl (Pts.visA rfl)) (resL_cons (res_t rfl) (resL_nil))) _ (ent_pick [2] rfl) ⟨by rw [← atGo_ver hc seq, hst]; simp only [atGo]; rw [show ok = true by simpa using c31]; rfl, rfl⟩
theorem refSweep_spec {A : HP} {h : SH} {xs : List Ver} (hv : Vis A (Rd eVer h xs)) (hb : xs.length ≤ 1000000) (hc : chainRight xs = true) (seq : Int) : Does Tryz.prog 119 [h.v, .int .i64 seq] [A] (fun v l => ∃ h', v = h'.v ∧ l = [Sl eVer h' (verSweep xs seq), A]) := by
 refine spec_of Tryz.func119 rfl Tryz.ntmps119 Tryz.results119 _ (by simp) fun ι F => ?_
 refine vc_see 0 rfl (hv.imp fun w r => r.len) (fun hlen => ?_)
 refine vc_seq ?_
 refine vc_region ?_
 refine vp ?_
 refine vc_nil ?_
 refine vc_then ?_
 refine vc_seq ?_
 refine vc_region ?_
 refine vc_buildSlice (E := eVer) [] [] rfl rfl (bs_138_0  ) rfl (fun h7 => ?_)
 refine vp ?_
 refine vc_nil ?_
 refine vc_then ?_
 refine vc_seq ?_
 refine vc_seq ?_
 refine vc_region ?_
 refine vp ?_
 refine vc_nil ?_
 refine vc_then ?_
 refine vc_block ?_
 refine vc_loop (α := Nat × SH × List Ver) (fun xq_ => match xq_ with | (i, hh, ys) => [(0, h.v), (1, .int .i64 seq), (5, hh.v), (6, .int .i64 (i : Int))]) (fun xq_ => match xq_ with | (i, hh, ys) => [Sl eVer hh ys, A]) (fun xq_ => match xq_ with | (i, hh, ys) => xs.length - i) (fun xq_ => match xq_ with | (i, hh, ys) => i ≤ xs.length ∧ swGo seq xs = ys ++ swGo seq (xs.drop i) ∧ ys.length ≤ i) (0, h7, []) ⟨Nat.zero_le _, rfl, Nat.le_refl _⟩ ⟨rfl, rfl, rfl, rfl, trivial⟩ (ent_pick [0, 0] rfl) ?_
 rintro ⟨i, hh, ys⟩ ⟨hi, hst, hyl⟩
 show VC _ _ _ _ [(0, h.v), (1, .int .i64 seq), (5, hh.v), (6, .int .i64 (i : Int))] ([Sl eVer hh ys, A])
 refine vc_seq ?_
 refine vc_seq ?_
 refine vc_region ?_
 refine vp ?_
 refine vp ?_
 refine vc_y (y_len Tryz.underlying138 rfl (by first | assumption | rfl)) rfl ?_
 refine vp ?_
 refine vc_nil ?_
 refine vc_then ?_
 first | refine vc_condP rfl (fun c11 => ?_) (fun c11 => ?_) | refine vc_condN rfl (fun c11 => ?_) (fun c11 => ?_) | refine vc_cond rfl (fun c11 => ?_) (fun c11 => ?_)
 ·skip
  have hi2 : i < xs.length := by omega
  refine vc_skip ?_
  refine vc_then ?_
  refine vc_seq ?_
  refine vc_block ?_
  refine vc_seq ?_
  refine vc_seq ?_
  refine vc_region ?_
  refine vp ?_
  first | refine vc_y (y_arith _ rfl (wrapNadd (by omega))) rfl ?_ | refine vc_y (y_arith _ rfl (wrap64 (by omega) (by omega))) rfl ?_ | refine vp ?_
  refine vp ?_
  refine vc_y (y_len Tryz.underlying138 rfl (by first | assumption | rfl)) rfl ?_
  refine vp ?_
  refine vp ?_
  first | refine vc_splitP 19 rfl (fun c19 => ?_) (fun c19 => ?_) | refine vc_splitN 19 rfl (fun c19 => ?_) (fun c19 => ?_) | refine vc_split 19 rfl (fun c19 => ?_) (fun c19 => ?_)
  ·skip
   refine vc_guardT 19 rfl rfl ?_
   refine vp ?_
   refine vc_guardT 19 rfl rfl ?_
   refine vp ?_
   refine vc_guardT 19 rfl rfl ?_
   first | refine vc_y (y_arith _ rfl (wrapNadd (by omega))) rfl ?_ | refine vc_y (y_arith _ rfl (wrap64 (by omega) (by omega))) rfl ?_ | refine vp ?_
   refine vc_guardT 19 rfl rfl ?_
   refine vc_y (y_elem 1 rfl (hv) (i + 1) rfl (by omega) sl_138 rfl rfl) rfl ?_
   refine vc_guardT 19 rfl rfl ?_
   refine vc_y (y_fieldE fl_135_0 0 rfl rfl) rfl ?_
   refine vc_guardT 19 rfl rfl ?_
   refine vc_y (y_load1 1 rfl one_3 rfl (Rd.vis1 (hv) (List.getElem?_eq_getElem (by first | assumption | omega)) rfl)) rfl ?_
   refine vc_guardT 19 rfl rfl ?_
   refine vp ?_
   refine vc_guardT 19 rfl rfl ?_
   refine vp ?_
   refine vp ?_
   refine vc_nil ?_
   refine vc_then ?_
   first | refine vc_condP rfl (fun c28 => ?_) (fun c28 => ?_) | refine vc_condN rfl (fun c28 => ?_) (fun c28 => ?_) | refine vc_cond rfl (fun c28 => ?_) (fun c28 => ?_)
   ·skip
    refine vc_exit ?_
    refine vc_thenExit ?_
    refine vc_inExit ?_
    refine vc_then ?_
    refine vc_region ?_
    refine vp ?_
    first | refine vc_y (y_arith _ rfl (wrapNadd (by omega))) rfl ?_ | refine vc_y (y_arith _ rfl (wrap64 (by omega) (by omega))) rfl ?_ | refine vp ?_
    refine vp ?_
    refine vc_nil ?_
    refine vc_then ?_
    first | exact vc_again (x := (i, hh, ys)) (i + 1, hh, ys) ⟨hi2, by rw [hst, sw_skip hi2 (by omega) c28], by omega⟩ (by show xs.length - (i + 1) < xs.length - i; omega) ⟨rfl, rfl, rfl, rfl, trivial⟩ (ent_pick [0, 0] rfl) | exact vc_again (x := (i, hh, ys)) (i + 1, h35, ys ++ [xs[i]]) ⟨hi2, by rw [hst, sw_keep hi2 (by first | exact fun _ => c28 | (intro h0; omega))]; simp, by simp; omega⟩ (by show xs.length - (i + 1) < xs.length - i; omega) ⟨rfl, rfl, rfl, rfl, trivial⟩ (ent_pick [0, 0] rfl)
   ·skip
    refine vc_skip ?_
    refine vc_then ?_
    refine vc_region ?_
    iterate 3 refine vp ?_
    refine vc_y (y_elem 1 rfl (hv) i rfl hi2 sl_138 rfl rfl) rfl ?_
    refine vc_y (y_loadA 1 rfl (cs := [_, _, _, _, _]) ag_135 rfl (Rd.visA (hv) (List.getElem?_eq_getElem (by first | assumption | omega)) rfl)) rfl ?_
    refine vc_buildSlice (E := eVer) [(0, _)] [xs[i]] rfl rfl (bs_138_1 _ _ _ _ _ ) rfl (fun h34 => ?_)
    refine vc_append 1 rfl 0 rfl (Sl.vis) el_138_eVer Tryz.underlying138 rfl rfl (by simp; omega) (by simp; omega) rfl (fun h35 => ?_)
    refine vp ?_
    refine vc_nil ?_
    refine vc_inNormal ?_
    refine vc_then ?_
    refine vc_region ?_
    refine vp ?_
    first | refine vc_y (y_arith _ rfl (wrapNadd (by omega))) rfl ?_ | refine vc_y (y_arith _ rfl (wrap64 (by omega) (by omega))) rfl ?_ | refine vp ?_
    refine vp ?_
    refine vc_nil ?_
    refine vc_then ?_
    first | exact vc_again (x := (i, hh, ys)) (i + 1, hh, ys) ⟨hi2, by rw [hst, sw_skip hi2 (by omega) c28], by omega⟩ (by show xs.length - (i + 1) < xs.length - i; omega) ⟨rfl, rfl, rfl, rfl, trivial⟩ (ent_pick [1, 1] rfl) | exact vc_again (x := (i, hh, ys)) (i + 1, h35, ys ++ [xs[i]]) ⟨hi2, by rw [hst, sw_keep hi2 (by first | exact fun _ => c28 | (intro h0; omega))]; simp, by simp; omega⟩ (by show xs.length - (i + 1) < xs.length - i; omega) ⟨rfl, rfl, rfl, rfl, trivial⟩ (ent_pick [1, 1] rfl)
  ·skip
   refine vc_guardF 19 rfl rfl rfl rfl ?_
   refine vc_guardF 19 rfl rfl rfl rfl ?_
   refine vc_guardF 19 rfl rfl rfl rfl ?_
   refine vc_guardF 19 rfl rfl rfl rfl ?_
   refine vc_guardF 19 rfl rfl rfl rfl ?_
   refine vc_guardF 19 rfl rfl rfl rfl ?_
   refine vc_guardF 19 rfl rfl rfl rfl ?_
   refine vc_guardF 19 rfl rfl rfl rfl ?_
   refine vp ?_
   refine vc_nil ?_
   refine vc_then ?_
   refine vc_condF rfl ?_
   refine vc_skip ?_
   refine vc_then ?_
   refine vc_region ?_
   iterate 3 refine vp ?_
   refine vc_y (y_elem 1 rfl (hv) i rfl hi2 sl_138 rfl rfl) rfl ?_
   refine vc_y (y_loadA 1 rfl (cs := [_, _, _, _, _]) ag_135 rfl (Rd.visA (hv) (List.getElem?_eq_getElem (by first | assumption | omega)) rfl)) rfl ?_
   refine vc_buildSlice (E := eVer) [(0, _)] [xs[i]] rfl rfl (bs_138_1 _ _ _ _ _ ) rfl (fun h34 => ?_)
   refine vc_append 1 rfl 0 rfl (Sl.vis) el_138_eVer Tryz.underlying138 rfl rfl (by simp; omega) (by simp; omega) rfl (fun h35 => ?_)
   refine vp ?_
   refine vc_nil ?_
   refine vc_inNormal ?_
   refine vc_then ?_
   refine vc_region ?_
   refine vp ?_
   first | refine vc_y (y_arith _ rfl (wrapNadd (by omega))) rfl ?_ | refine vc_y (y_arith _ rfl (wrap64 (by omega) (by omega))) rfl ?_ | refine vp ?_
   refine vp ?_
   refine vc_nil ?_
   refine vc_then ?_
   first | exact vc_again (x := (i, hh, ys)) (i + 1, hh, ys) ⟨hi2, by rw [hst, sw_skip hi2 (by omega) c28], by omega⟩ (by show xs.length - (i + 1) < xs.length - i; omega) ⟨rfl, rfl, rfl, rfl, trivial⟩ (ent_pick [1, 1] rfl) | exact vc_again (x := (i, hh, ys)) (i + 1, h35, ys ++ [xs[i]]) ⟨hi2, by rw [hst, sw_keep hi2 (by first | exact fun _ => c28 | (intro h0; omega))]; simp, by simp; omega⟩ (by show xs.length - (i + 1) < xs.length - i; omega) ⟨rfl, rfl, rfl, rfl, trivial⟩ (ent_pick [1, 1] rfl)
 ·skip
  obtain rfl : i = xs.length := by omega
  rw [List.drop_length] at hst
  have hst2 : swEnd seq ys = verSweep xs seq := by rw [← swEnd_eq hc, hst]; simp [swGo]
  refine vc_exit ?_
  refine vc_thenExit ?_
  refine vc_thenExit ?_
  refine vc_inExit ?_
  refine vc_then ?_
  refine vc_seq ?_
  refine vc_seq ?_
  refine vc_region ?_
  refine vc_see 0 rfl (Sl.vis.imp fun w r => (⟨r.len, r.cap⟩ : hh.len = ys.length ∧ ys.length ≤ hh.cap)) (fun hlc => ?_)
  obtain ⟨hl2, hcap⟩ := hlc
  refine vp ?_
  refine vc_y (y_len Tryz.underlying138 rfl (by first | assumption | rfl)) rfl ?_
  refine vp ?_
  refine vp ?_
  first | refine vc_splitP 39 rfl (fun c39 => ?_) (fun c39 => ?_) | refine vc_splitN 39 rfl (fun c39 => ?_) (fun c39 => ?_) | refine vc_split 39 rfl (fun c39 => ?_) (fun c39 => ?_)
  ·skip
   obtain ⟨y, r, rfl⟩ : ∃ y r, ys = y :: r := by
    cases ys with
    | nil => simp at c39
    | cons y r => exact ⟨y, r, rfl⟩
   rw [List.length_cons] at hl2 hcap
   refine vc_guardT 39 rfl rfl ?_
   refine vp ?_
   refine vc_guardT 39 rfl rfl ?_
   refine vc_y (y_elem 0 rfl (Sl.vis) 0 rfl (by simp) sl_138 rfl rfl) rfl ?_
   refine vc_guardT 39 rfl rfl ?_
   refine vc_y (y_fieldE fl_135_1 1 rfl rfl) rfl ?_
   refine vc_guardT 39 rfl rfl ?_
   refine vc_y (y_load1 0 rfl one_4 rfl (Rd.vis1 (Sl.vis) (List.getElem?_eq_getElem (by first | assumption | omega)) rfl)) rfl ?_
   refine vp ?_
   refine vp ?_
   first | refine vc_splitP 45 rfl (fun c45 => ?_) (fun c45 => ?_) | refine vc_splitN 45 rfl (fun c45 => ?_) (fun c45 => ?_) | refine vc_split 45 rfl (fun c45 => ?_) (fun c45 => ?_)
   ·skip
    have hg : y.gone = true := c45
    refine vc_guardT 45 rfl rfl ?_
    refine vp ?_
    refine vc_guardT 45 rfl rfl ?_
    refine vc_y (y_elem 0 rfl (Sl.vis) 0 rfl (by simp) sl_138 rfl rfl) rfl ?_
    refine vc_guardT 45 rfl rfl ?_
    refine vc_y (y_fieldE fl_135_0 0 rfl rfl) rfl ?_
    refine vc_guardT 45 rfl rfl ?_
    refine vc_y (y_load1 0 rfl one_3 rfl (Rd.vis1 (Sl.vis) (List.getElem?_eq_getElem (by first | assumption | omega)) rfl)) rfl ?_
    refine vc_guardT 45 rfl rfl ?_
    refine vp ?_
    refine vc_guardT 45 rfl rfl ?_
    refine vp ?_
    refine vp ?_
    refine vc_nil ?_
    refine vc_then ?_
    first | refine vc_condP rfl (fun c52 => ?_) (fun c52 => ?_) | refine vc_condN rfl (fun c52 => ?_) (fun c52 => ?_) | refine vc_cond rfl (fun c52 => ?_) (fun c52 => ?_)
    ·skip
     have hq : y.seq ≤ seq := c52
     refine vc_seq ?_
     refine vc_region ?_
     refine vp ?_
     refine vc_y (y_slice sl_138 rfl 1 hh.len hh.cap ⟨_, _, rfl, rfl⟩ rfl rfl (by simp) (by omega) (by omega) (by omega)) rfl ?_
     refine vp ?_
     refine vc_nil ?_
     refine vc_then ?_
     refine vc_ret ?_
     refine vc_thenRet ?_
     exact vc_end1 Tryz.results119 rfl _ ((ent_at [0, 0] rfl (ent_head (B := Sl eVer (hh.cut 5 1 hh.len hh.cap) (verSweep xs seq)) (by rw [← hst2]; have := Sl.cut (E := eVer) (h := hh) (xs := y :: r) (lo := 1) (hi := hh.len) (mx := hh.cap) (by omega) (by simp; omega) (by omega) (Nat.le_refl _); rw [hl2, ← List.length_cons, List.take_length] at this; simpa [swEnd, hg, hq, hl2, show eVer.sz = 5 from rfl] using this))).trans Ent.rfl) ⟨_, rfl, rfl⟩
    ·skip
     have hq : ¬ y.seq ≤ seq := c52
     refine vc_skip ?_
     refine vc_then ?_
     refine vc_seq ?_
     refine vc_region ?_
     refine vp ?_
     refine vp ?_
     refine vc_nil ?_
     refine vc_then ?_
     refine vc_ret ?_
     exact vc_end1 Tryz.results119 rfl _ ((ent_at [0, 0] rfl (ent_head (B := Sl eVer hh (verSweep xs seq)) (by rw [← hst2]; simp [swEnd, *]; exact Ent.rfl))).trans Ent.rfl) ⟨_, rfl, rfl⟩
   ·skip
    have hg : y.gone = false := by simpa using c45
    refine vc_guardF 45 rfl rfl rfl rfl ?_
    refine vc_guardF 45 rfl rfl rfl rfl ?_
    refine vc_guardF 45 rfl rfl rfl rfl ?_
    refine vc_guardF 45 rfl rfl rfl rfl ?_
    refine vc_guardF 45 rfl rfl rfl rfl ?_
    refine vc_guardF 45 rfl rfl rfl rfl ?_
    refine vp ?_
    refine vc_nil ?_
    refine vc_then ?_
    refine vc_condF rfl ?_
    refine vc_skip ?_
    refine vc_then ?_
    refine vc_seq ?_
    refine vc_region ?_
    refine vp ?_
    refine vp ?_
    refine vc_nil ?_
    refine vc_then ?_
    refine vc_ret ?_
    exact vc_end1 Tryz.results119 rfl _ ((ent_at [0, 0] rfl (ent_head (B := Sl eVer hh (verSweep xs seq)) (by rw [← hst2]; simp [swEnd, *]; exact Ent.rfl))).trans Ent.rfl) ⟨_, rfl, rfl⟩
  ·skip
   obtain rfl : ys = [] := List.length_eq_zero_iff.1 (by omega)
   refine vc_guardF 39 rfl rfl rfl rfl ?_
   refine vc_guardF 39 rfl rfl rfl rfl ?_
   refine vc_guardF 39 rfl rfl rfl rfl ?_
   refine vc_guardF 39 rfl rfl rfl rfl ?_
   refine vp ?_
   refine vp ?_
   refine vc_guardF 45 rfl rfl rfl rfl ?_
   refine vc_guardF 45 rfl rfl rfl rfl ?_
   refine vc_guardF 45 rfl rfl rfl rfl ?_
   refine vc_guardF 45 rfl rfl rfl rfl ?_
   refine vc_guardF 45 rfl rfl rfl rfl ?_
   refine vc_guardF 45 rfl rfl rfl rfl ?_
   refine vp ?_
   refine vc_nil ?_
   refine vc_then ?_
   refine vc_condF rfl ?_
   refine vc_skip ?_
   refine vc_then ?_
   refine vc_seq ?_
   refine vc_region ?_
   refine vp ?_
   refine vp ?_
   refine vc_nil ?_
   refine vc_then ?_
   refine vc_ret ?_
   exact vc_end1 Tryz.results119 rfl _ ((ent_at [0, 0] rfl (ent_head (B := Sl eVer hh (verSweep xs seq)) (by rw [← hst2]; simp [swEnd, *]; exact Ent.rfl))).trans Ent.rfl) ⟨_, rfl, rfl⟩
end Go.Proofs.YtcpbibdbahfgaaaGreat
/-
 A room of the reference in memory; what its counts and its ring come to.
-/
set_option linter.unusedVariables false
set_option autoImplicit false
namespace Go.Proofs.YtcpbibdbahfgaaaGreat
open Go.Eng
structure RfK where
 hL : SH
 ring : Int
 quota : Int
 most : Int
 bG : Nat
abbrev RfP (b : Nat) (K : RfK) (hO : SH) : HP := Pts b [K.hL.v, .int .i64 K.ring, .int .i64 K.quota, .int .i64 K.most, .pointer (some ⟨K.bG, 0, none⟩), hO.v] 67
abbrev RfL (b : Nat) (K : RfK) (hO : SH) (T : List On) : List HP := [RfP b K hO, RoSl eOne hO T, RoM T]
abbrev RgP (b : Nat) (size begin : Int) (hS : SH) : HP := Pts b [.int .i64 size, .int .i64 begin, hS.v] 126
structure TOk (T : List On) : Prop where
 c : ∀ p ∈ T, chainRight p.2.2 = true
 len : ∀ p ∈ T, p.2.2.length ≤ 950000
 k : ∀ p ∈ T, p.1.size ≤ 32
 n : T.length ≤ 200000
theorem mpT_mem {T : List On} {p : On} (h : p ∈ T) : (p.1, p.2.2) ∈ mpT T := List.mem_map.2 ⟨p, h, rfl⟩
theorem RmX.ok.tok {X : RmX} (ok : X.ok) {T : List On} (h : mpT T = X.M) : TOk T :=
 ⟨fun p hp => (ok.ps _ (h ▸ mpT_mem hp)).c, fun p hp => by have := (ok.ps _ (h ▸ mpT_mem hp)).len; have := ok.bg; simp only at *; omega, fun p hp => (ok.ps _ (h ▸ mpT_mem hp)).k2, by have := ok.le; rw [← h, mpT_length] at this; omega⟩
theorem sumM_succ (f : ByteArray × List Ver → Int) {T : List On} {i : Nat} (h : i < T.length) : sumM f (mpT (T.take (i + 1))) = sumM f (mpT (T.take i)) + f (T[i].1, T[i].2.2) := by
 rw [List.take_succ_eq_append_getElem h, mpT_append, sumM_append]; simp [mpT, sumM]
theorem TOk.take {T : List On} (h : TOk T) (i : Nat) : TOk (T.take i) :=
 ⟨fun p hp => h.c p (List.mem_of_mem_take hp), fun p hp => h.len p (List.mem_of_mem_take hp), fun p hp => h.k p (List.mem_of_mem_take hp), by have := h.n; simp; omega⟩
theorem TOk.live {T : List On} (h : TOk T) : 0 ≤ liveM (mpT T) ∧ liveM (mpT T) ≤ 97 * T.length := by
 have := sumM_bound (f := fun p => lives p.1 p.2) (c := 97) (M := mpT T) fun p hp => by
  obtain ⟨q, hq, rfl⟩ := List.mem_map.1 hp
  exact lives_le _ (h.k q hq)
 rw [mpT_length] at this; exact this
theorem TOk.vers {T : List On} (h : TOk T) : 0 ≤ versM (mpT T) ∧ versM (mpT T) ≤ 950000 * T.length := by
 have := sumM_bound (f := fun p => (p.2.length : Int)) (c := 950000) (M := mpT T) fun p hp => by
  obtain ⟨q, hq, rfl⟩ := List.mem_map.1 hp
  have := h.len q hq; simp only; omega
 rw [mpT_length] at this; exact this
/-- The chain of a key, and where it lies. -/
def onT (T : List On) (key : ByteArray) : On := (T.find? fun p => sEq p.1 key).getD (key, nilS, [])
theorem onT_vis (T : List On) (key : ByteArray) : Vis (RoM T) (Rd eVer (onT T key).2.1 (onT T key).2.2) := by
 unfold onT
 cases h : T.find? fun p => sEq p.1 key with
 | none => exact fun _ _ _ => Rd.nil
 | some p => exact RoM.vis (List.mem_of_find?_eq_some h)
theorem onT_chain {T : List On} (hr : Rise (ks (mpT T))) (key : ByteArray) : (onT T key).2.2 = chainM (mpT T) key := by
 unfold onT
 cases h : T.find? fun p => sEq p.1 key with
 | none =>
  cases hl : Eng.look (mpT T) key with
  | none => simp [chainM, hl]
  | some l =>
   obtain ⟨p, hp, e⟩ := List.mem_map.1 (look_mem' hl)
   have := List.find?_eq_none.1 h p hp
   simp only [Prod.mk.injEq] at e
   rw [e.1, sEq_self] at this
   exact absurd rfl this
 | some p =>
  have h1 := List.find?_some h
  have h2 := chain_mem hr (mpT_mem (List.mem_of_find?_eq_some h))
  have h3 : p.1 = key := sEq_iff.1 h1
  rw [← h3, h2]; rfl
/-! ### What lives, behind writes -/
theorem cWeight_snoc {l : List Ver} {v : Ver} (h : chainRight (l ++ [v]) = true) : cWeight (l ++ [v]) = if v.gone then 0 else vWeight v.val := by
 have : verLast (l ++ [v]) = some v := by unfold verLast; rw [if_pos h]; simp
 unfold cWeight; rw [this]
theorem vWeight_pos {x : Val} (h : valRight x = true) : 1 ≤ vWeight x := by
 unfold vWeight
 rw [if_pos h]
 split <;> omega
theorem lives_snoc {k : ByteArray} {l : List Ver} {v : Ver} (h : chainRight (l ++ [v]) = true) : lives k (l ++ [v]) = if v.gone then 0 else (k.size : Int) + vWeight v.val := by
 unfold lives
 rw [cWeight_snoc h]
 have hv : valRight v.val = true := verRight_val (chainFrom_mem h v (by simp)).2
 have := vWeight_pos hv
 cases v.gone with
 | true => simp
 | false => simp; omega
theorem live_mPut {M : Mp} {k : ByteArray} {v : Ver} (h : chainRight (chainM M k ++ [v]) = true) : liveM (mPut M k v) = liveM M - lives k (chainM M k) + (if v.gone then 0 else (k.size : Int) + vWeight v.val) := by
 rw [← lives_snoc h]
 unfold mPut
 cases hf : fnd (ks M) k with
 | true =>
  obtain ⟨w, A, B, e1, e2, e3, e4, e5⟩ := fnd_split hf
  simp only [if_true]
  rw [sum_lives_put e1]
  have : chainM M k = w := by simp [chainM, e1]
  rw [this]
 | false =>
  simp only [Bool.false_eq_true, if_false]
  rw [sum_lives_ins, chainM_none hf, lives_nil]
  simp
theorem live_puts {X : RmX} {R' : RR} {ws : List Wr} (H : PutsH X R' ws) : ∀ i, i ≤ ws.length → Puts X R' R'.seq ws i ∧ liveM (mPuts X.M R'.seq (ws.take i)) = liveM X.M + addW X.M (ws.take i)
 | 0, _ => ⟨H.zero, by simp [mPuts, addW]⟩
 | i + 1, h => by
  obtain ⟨h1, h2⟩ := live_puts H i (by omega)
  have hi : i < ws.length := by omega
  obtain ⟨e1, e2⟩ := H.right hi h1
  refine ⟨H.step hi h1, ?_⟩
  rw [mPuts_succ hi, live_mPut (by rw [e1]; exact e2), e1, h2, addW_succ hi]
  simp only [wAdd]
  generalize (if ws[i].gone = true then (0 : Int) else (ws[i].key.size : Int) + vWeight ws[i].val) = q
  omega
/-! ### The ring -/
theorem lastS_drop {L : List Int} {k : Nat} (h : k < L.length) : lastS (L.drop k) = lastS L := by
 unfold lastS
 rw [List.length_drop, List.getElem?_drop, show k + (L.length - k - 1) = L.length - 1 by omega]
theorem leI_append {a b : List Int} (h : RiseI (a ++ b)) (s : Int) : leI (a ++ b) s = if leI b s = 0 ∧ leI a s < a.length then leI a s else a.length + leI b s := by
 induction a with
 | nil => simp [leI]
 | cons x a ih =>
  have ih := ih h.2
  simp only [List.cons_append, leI, List.length_cons]
  by_cases hx : x ≤ s
  ·simp only [if_pos hx]
   rw [ih]
   by_cases hc : leI b s = 0 ∧ leI a s < a.length
   ·rw [if_pos hc, if_pos (by omega)]
   ·rw [if_neg hc, if_neg (by omega)]; omega
  ·simp only [if_neg hx]
   have hb : leI b s = 0 := by
    cases b with
    | nil => rfl
    | cons y b =>
     have := h.1 y (by simp)
     simp only [leI]
     rw [if_neg (by omega)]
   rw [if_pos ⟨hb, by omega⟩]
structure RgRel (R : RR) (L : List Int) : Prop where
 seq : R.seq = R.begin + L.length
 st : R.stamps = L.drop (L.length - R.size.toNat)
 rise : RiseI L
def asOfL (R : RR) (L : List Int) (s : Int) : Int × Int := if R.size ≤ (L.length : Int) - leI L s then (0, 14) else (R.begin + leI L s, 0)
theorem asOf_eq {R : RR} {L : List Int} (ok : R.ok) (h : RgRel R L) (s : Int) : asOfL R L s = asOfR R s := by
 obtain ⟨h1, h2, h3⟩ := h
 obtain ⟨o1, o2, o3, o4, o5, o6, o7, o8⟩ := ok
 have e := List.take_append_drop (L.length - R.size.toNat) L
 have hr : RiseI (L.take (L.length - R.size.toNat) ++ R.stamps) := by rw [h2, e]; exact h3
 have ha := leI_append hr s
 rw [h2, e] at ha
 have hlen : R.stamps.length = min L.length R.size.toNat := by rw [h2, List.length_drop]; omega
 have hle1 := leI_le L s
 have hle2 := leI_le R.stamps s
 have hle3 := leI_le (L.take (L.length - R.size.toNat)) s
 simp only [List.length_take] at ha hle3
 unfold asOfL asOfR RR.floor
 rw [h2] at hle2 hlen ⊢
 split at ha
 ·rename_i hc
  rw [if_pos (by omega), if_pos (by omega)]
 ·rename_i hc
  by_cases h0 : leI (L.drop (L.length - R.size.toNat)) s = 0
  ·by_cases hs : L.length ≤ R.size.toNat
   ·by_cases hq : R.size ≤ (L.length : Int) - leI L s
    ·rw [if_pos hq, if_pos (by omega)]
    ·rw [if_neg hq, if_neg (by omega)]; congr 1; omega
   ·rw [if_pos (by omega), if_pos (by omega)]
  ·rw [if_neg (by omega), if_neg (by omega)]; congr 1; omega
theorem push_rel {R : RR} {L : List Int} (ok : R.ok) (h : RgRel R L) {s : Int} (h1 : ¬ s ≤ lastS L) (h2 : ¬ 1073741824 ≤ R.seq) : RgRel (pushR R s).2.2 (L ++ [s]) := by
 obtain ⟨g1, g2, g3⟩ := h
 obtain ⟨o1, o2, o3, o4, o5, o6, o7, o8⟩ := ok
 have hl : lastS R.stamps = lastS L := by
  rw [g2]
  by_cases h0 : L.length = 0
  ·have : L = [] := List.length_eq_zero_iff.1 h0
   rw [this]; simp
  ·exact lastS_drop (by omega)
 have e : pushR R s = (R.seq + 1, 0, ⟨R.size, R.begin, R.seq + 1, (R.stamps ++ [s]).drop (R.stamps.length + 1 - R.size.toNat)⟩) := by unfold pushR; rw [hl, if_neg h1, if_neg h2]
 rw [e]
 refine ⟨by simp; omega, ?_, riseI_append.2 ⟨g3, ⟨by simp, trivial⟩, fun x hx y hy => ?_⟩⟩
 ·simp only [List.length_append, List.length_singleton]
  have hlen : R.stamps.length = min L.length R.size.toNat := by rw [g2, List.length_drop]; omega
  have e2 : R.stamps ++ [s] = (L ++ [s]).drop (L.length - R.size.toNat) := by rw [g2, List.drop_append_of_le_length (by omega)]
  rw [e2, List.drop_drop]
  congr 1
  omega
 ·simp at hy
  have := riseI_last g3 hx
  omega
end Go.Proofs.YtcpbibdbahfgaaaGreat
/-
 The reference of rooms: what reads.
-/
set_option linter.unusedVariables false
set_option linter.unusedSimpArgs false
set_option autoImplicit false
set_option maxHeartbeats 4000000
namespace Go.Proofs.YtcpbibdbahfgaaaGreat
open Go.Eng
namespace FRef3
theorem fl_126_1 : Fld Tryz.prog 126 1 1 := ⟨_, _, 0, Tryz.underlying126, rfl, rfl, by kernel_rfl⟩
theorem one_3 : TyOne Tryz.prog 3 := ⟨⟨_, Tryz.underlying3, rfl⟩, by kernel_rfl⟩
theorem fl_126_2 : Fld Tryz.prog 126 2 2 := ⟨_, _, 0, Tryz.underlying126, rfl, rfl, by kernel_rfl⟩
theorem one_22 : TyOne Tryz.prog 22 := ⟨⟨_, Tryz.underlying22, rfl⟩, by kernel_rfl⟩
theorem fl_67_1 : Fld Tryz.prog 67 1 4 := ⟨_, _, 0, Tryz.underlying67, rfl, rfl, by kernel_rfl⟩
theorem one_64 : TyOne Tryz.prog 64 := ⟨⟨_, Tryz.underlying64, rfl⟩, by kernel_rfl⟩
theorem ca_100 : Callable Tryz.prog 100 := ⟨_, _, Tryz.func100, rfl, rfl⟩
theorem fl_67_0 : Fld Tryz.prog 67 0 0 := ⟨_, _, 3, Tryz.underlying67, rfl, rfl, by kernel_rfl⟩
theorem fl_24_1 : Fld Tryz.prog 24 1 1 := ⟨_, _, 0, Tryz.underlying24, rfl, rfl, by kernel_rfl⟩
theorem ca_37 : Callable Tryz.prog 37 := ⟨_, _, Tryz.func37, rfl, rfl⟩
theorem fl_67_2 : Fld Tryz.prog 67 2 5 := ⟨_, _, 0, Tryz.underlying67, rfl, rfl, by kernel_rfl⟩
theorem one_65 : TyOne Tryz.prog 65 := ⟨⟨_, Tryz.underlying65, rfl⟩, by kernel_rfl⟩
theorem sl_65 : TySl Tryz.prog 65 152 2 := ⟨Tryz.underlying65, by kernel_rfl⟩
theorem fl_152_1 : Fld Tryz.prog 152 1 1 := ⟨_, _, 0, Tryz.underlying152, rfl, rfl, by kernel_rfl⟩
theorem one_138 : TyOne Tryz.prog 138 := ⟨⟨_, Tryz.underlying138, rfl⟩, by kernel_rfl⟩
theorem ca_136 : Callable Tryz.prog 136 := ⟨_, _, Tryz.func136, rfl, rfl⟩
theorem fl_152_0 : Fld Tryz.prog 152 0 0 := ⟨_, _, 0, Tryz.underlying152, rfl, rfl, by kernel_rfl⟩
theorem one_9 : TyOne Tryz.prog 9 := ⟨⟨_, Tryz.underlying9, rfl⟩, by kernel_rfl⟩
theorem ca_96 : Callable Tryz.prog 96 := ⟨_, _, Tryz.func96, rfl, rfl⟩
theorem ze_135 : (Tryz.prog.info? 135).map (·.zero) = some (some (.agg #[.int .i64 0, .bool false, .bool false, .string ⟨#[]⟩, .int .u64 0])) := by kernel_rfl
theorem sz_135 : (Tryz.prog.info? 135).map (·.size) = some 5 := by kernel_rfl
end FRef3
open FRef3
theorem sGt_eq (a b : ByteArray) : (!(sLt a b || sEq a b)) = sLt b a := by
 rcases sLt_total a b with h | h | h
 ·rw [h, sLt_asymm h]; rfl
 ·subst h; rw [sLt_irrefl, sEq_self]; rfl
 ·rw [h, sLt_asymm h, sEq_false.2 (sLt_ne h).symm]; rfl
theorem lead_take {M : List On} {i : Nat} (h : i < M.length) : mpT (M.drop i) = (M[i].1, M[i].2.2) :: mpT (M.drop (i + 1)) := by
 rw [List.drop_eq_getElem_cons h]; rfl
def fromI (key : ByteArray) (above : Bool) (seq : Int) : Mp → Nat → Int
 | [], _ => -1
 | p :: r, i => if (verAt p.2 seq).isSome && (sLt key p.1 || (!above && sEq p.1 key)) then (i : Int) else fromI key above seq r (i + 1)
def pushL (bg : Int) (L : List Int) (s : Int) : Int × Int × List Int := if s ≤ lastS L then (0, 1, L) else if 1073741824 ≤ bg + (L.length : Int) then (0, 17, L) else (bg + (L.length : Int) + 1, 0, L ++ [s])
def cntI (L : List Int) (s : Int) : Nat := (L.filter fun x => decide (x ≤ s)).length
theorem cntI_succ {L : List Int} {i : Nat} (h : i < L.length) (s : Int) : cntI (L.take (i + 1)) s = cntI (L.take i) s + if L[i] ≤ s then 1 else 0 := by
 unfold cntI
 rw [List.take_succ_eq_append_getElem h, List.filter_append, List.length_append]
 by_cases hc : L[i] ≤ s <;> simp [hc]
theorem cntI_eq : ∀ {L : List Int} (h : RiseI L) (s : Int), cntI L s = leI L s
 | [], _, _ => rfl
 | x :: r, h, s => by
  have ih := cntI_eq h.2 s
  unfold cntI at *
  simp only [leI]
  by_cases hx : x ≤ s
  ·rw [if_pos hx, List.filter_cons_of_pos (by simp [hx]), List.length_cons, ih]
  ·rw [if_neg hx, List.filter_cons_of_neg (by simp [hx])]
   have : r.filter (fun x => decide (x ≤ s)) = [] := List.filter_eq_nil_iff.2 fun y hy => by
    have := h.1 y hy
    simp; omega
   rw [this]; rfl
theorem cntI_le (L : List Int) (s : Int) : cntI L s ≤ L.length := List.length_filter_le _ _
theorem rgSeq {K : RfK} {bg : Int} {hS : SH} {L : List Int} (hq : 0 ≤ bg ∧ bg + (L.length : Int) ≤ 1073741824) : Does Tryz.prog 100 [.pointer (some ⟨K.bG, 0, none⟩)] [RgP K.bG K.ring bg hS, Sl eU64 hS L] (fun v l => v = .int .i64 (bg + (L.length : Int)) ∧ l = [RgP K.bG K.ring bg hS, Sl eU64 hS L]) := by
 refine spec_of Tryz.func100 rfl Tryz.ntmps100 Tryz.results100 _ (by simp) fun ι F => ?_
 refine vc_see 1 rfl (Sl.vis.imp fun w r => r.len) (fun hlS => ?_)
 refine vc_seq ?_
 refine vc_region ?_
 refine vp ?_
 refine vc_nil ?_
 refine vc_then ?_
 refine vc_seq ?_
 refine vc_draw (by kernel_rfl) _ none [0, 0] rfl ?_
 refine tpp 0 ?_
 refine tpp 1 ?_
 refine tp 2 rfl (by exact y_fieldP fl_126_1 1 rfl rfl) ?_
 refine tk 3 rfl (by exact y_load1 0 rfl one_3 rfl (Pts.vis rfl)) ?_
 refine tpp 4 ?_
 refine tpp 5 ?_
 refine tp 6 rfl (by exact y_fieldP fl_126_2 2 rfl rfl) ?_
 refine tk 7 rfl (by exact y_load1 0 rfl one_22 rfl (Pts.vis rfl)) ?_
 refine tp 8 rfl (by exact y_len Tryz.underlying22 rfl (by first | assumption | rfl)) ?_
 first | refine tp 9 rfl (by exact y_arith _ rfl (wrap64 (by omega) (by omega))) ?_ | refine tpp 9 ?_
 refine tpp 10 ?_
 refine va_done (by kernel_rfl) ?_
 refine vc_then ?_
 refine vc_ret ?_
 exact vc_end1 Tryz.results100 rfl _ (ent_pick [0, 0] rfl) ⟨rfl, rfl⟩
theorem rfSeq {b : Nat} {K : RfK} {hO : SH} {bg : Int} {hS : SH} {L : List Int} (hq : 0 ≤ bg ∧ bg + (L.length : Int) ≤ 1073741824) : Does Tryz.prog 37 [.pointer (some ⟨b, 0, none⟩)] [RfP b K hO, RgP K.bG K.ring bg hS, Sl eU64 hS L] (fun v l => v = .int .i64 (bg + (L.length : Int)) ∧ l = [RfP b K hO, RgP K.bG K.ring bg hS, Sl eU64 hS L]) := by
 refine spec_of Tryz.func37 rfl Tryz.ntmps37 Tryz.results37 _ (by simp) fun ι F => ?_
 refine vc_seq ?_
 refine vc_region ?_
 refine vp ?_
 refine vc_nil ?_
 refine vc_then ?_
 refine vc_seq ?_
 refine vc_region ?_
 refine vp ?_
 refine vp ?_
 refine vc_y (y_fieldP fl_67_1 4 rfl rfl) rfl ?_
 refine vc_y (y_load1 0 rfl one_64 rfl (Pts.vis rfl)) rfl ?_
 refine vc_callv ca_100 (us := []) (vs := []) rfl [_] rfl [1, 1] rfl (rgSeq hq) rfl ?_
 rintro _ _ ⟨rfl, rfl⟩
 refine vp ?_
 refine vc_nil ?_
 refine vc_then ?_
 refine vc_ret ?_
 exact vc_end1 Tryz.results37 rfl _ (ent_pick [2, 0, 0] rfl) ⟨rfl, rfl⟩
theorem rfFloor {b : Nat} {K : RfK} {hO : SH} {bg : Int} {hS : SH} {L : List Int} (hq : 0 ≤ bg ∧ bg + (L.length : Int) ≤ 1073741824) (hr : 1 ≤ K.ring ∧ K.ring ≤ 16) : Does Tryz.prog 90 [.pointer (some ⟨b, 0, none⟩)] [RfP b K hO, RgP K.bG K.ring bg hS, Sl eU64 hS L] (fun v l => v = .int .i64 (max (bg + (L.length : Int) - K.ring + 1) bg) ∧ l = [RfP b K hO, RgP K.bG K.ring bg hS, Sl eU64 hS L]) := by
 refine spec_of Tryz.func90 rfl Tryz.ntmps90 Tryz.results90 _ (by simp) fun ι F => ?_
 refine vc_seq ?_
 refine vc_region ?_
 refine vp ?_
 refine vc_nil ?_
 refine vc_then ?_
 refine vc_seq ?_
 refine vc_draw (by kernel_rfl) _ none [0, 0, 0] rfl ?_
 refine tpp 0 ?_
 refine tpp 2 ?_
 refine tpp 3 ?_
 refine tp 4 rfl (by exact y_fieldP fl_67_0 0 rfl rfl) ?_
 refine tp 5 rfl (by exact y_fieldP fl_24_1 1 rfl rfl) ?_
 refine tk 6 rfl (by exact y_load1 0 rfl one_3 rfl (Pts.vis rfl)) ?_
 refine va_ready [1] (by kernel_rfl) rfl ?_
 refine vo_cons rfl (fun hC0 => ?_) ?_
 ·skip
  refine vc_callv ca_37 (us := []) (vs := []) rfl [_] rfl [0, 0, 0] rfl (rfSeq hq) rfl ?_
  rintro _ _ ⟨rfl, rfl⟩
  refine vc_nil ?_
  refine vc_then ?_
  refine va_kept hC0 [0, 0, 0] rfl ?_
  clear hC0
  first | refine tp 7 rfl (by exact y_arith _ rfl (wrap64 (by omega) (by omega))) ?_ | refine tpp 7 ?_
  first | refine tp 8 rfl (by exact y_arith _ rfl (wrapNadd (by omega))) ?_ | refine tp 8 rfl (by exact y_arith _ rfl (wrap64 (by omega) (by omega))) ?_ | refine tpp 8 ?_
  refine tpp 9 ?_
  refine va_done (by kernel_rfl) ?_
  refine vc_then ?_
  refine vc_seq ?_
  refine vc_seq ?_
  refine vc_region ?_
  iterate 3 refine vp ?_
  refine vc_y (y_fieldP fl_67_1 4 rfl rfl) rfl ?_
  refine vc_y (y_load1 0 rfl one_64 rfl (Pts.vis rfl)) rfl ?_
  refine vp ?_
  refine vc_y (y_fieldP fl_126_1 1 rfl rfl) rfl ?_
  refine vc_y (y_load1 1 rfl one_3 rfl (Pts.vis rfl)) rfl ?_
  refine vp ?_
  refine vc_nil ?_
  refine vc_then ?_
  first | refine vc_condP rfl (fun c21 => ?_) (fun c21 => ?_) | refine vc_condN rfl (fun c21 => ?_) (fun c21 => ?_) | refine vc_cond rfl (fun c21 => ?_) (fun c21 => ?_)
  ·skip
   refine vc_seq ?_
   refine vc_region ?_
   refine vp ?_
   refine vp ?_
   refine vc_y (y_fieldP fl_67_1 4 rfl rfl) rfl ?_
   refine vc_y (y_load1 0 rfl one_64 rfl (Pts.vis rfl)) rfl ?_
   refine vp ?_
   refine vc_y (y_fieldP fl_126_1 1 rfl rfl) rfl ?_
   refine vc_y (y_load1 1 rfl one_3 rfl (Pts.vis rfl)) rfl ?_
   refine vp ?_
   refine vc_nil ?_
   refine vc_then ?_
   refine vc_ret ?_
   refine vc_thenRet ?_
   exact vc_end1 Tryz.results90 rfl _ (ent_pick [0, 0, 0] rfl) ⟨by congr 1; omega, rfl⟩
  ·skip
   refine vc_skip ?_
   refine vc_then ?_
   refine vc_seq ?_
   refine vc_region ?_
   refine vp ?_
   refine vp ?_
   refine vc_nil ?_
   refine vc_then ?_
   refine vc_ret ?_
   exact vc_end1 Tryz.results90 rfl _ (ent_pick [0, 0, 0] rfl) ⟨by congr 1; omega, rfl⟩
 exact vo_nil
theorem rfVers {b : Nat} {K : RfK} {hO : SH} {T : List On} (hT : TOk T) : Does Tryz.prog 91 [.pointer (some ⟨b, 0, none⟩)] (RfL b K hO T) (fun v l => v = .int .i64 (versM (mpT T)) ∧ l = RfL b K hO T) := by
 refine spec_of Tryz.func91 rfl Tryz.ntmps91 Tryz.results91 _ (by simp) fun ι F => ?_
 refine vc_see 1 rfl (RoSl.vis.imp fun w r => r.len) (fun hlen => ?_)
 refine vc_seq ?_
 refine vc_region ?_
 refine vp ?_
 refine vc_nil ?_
 refine vc_then ?_
 refine vc_seq ?_
 refine vc_region ?_
 refine vp ?_
 refine vc_nil ?_
 refine vc_then ?_
 refine vc_seq ?_
 refine vc_seq ?_
 refine vc_region ?_
 refine vp ?_
 refine vc_nil ?_
 refine vc_then ?_
 refine vc_block ?_
 refine vc_loop (α := Nat × Int) (fun xq_ => match xq_ with | (i, n) => [(0, .pointer (some ⟨b, 0, none⟩)), (3, .int .i64 n), (4, .int .i64 (i : Int))]) (fun xq_ => match xq_ with | (i, n) => RfL b K hO T) (fun xq_ => match xq_ with | (i, n) => T.length - i) (fun xq_ => match xq_ with | (i, n) => i ≤ T.length ∧ n = versM (mpT (T.take i))) (0, 0) ⟨Nat.zero_le _, by simp [mpT, versM, sumM]⟩ ⟨rfl, rfl, rfl, trivial⟩ (ent_pick [0, 0, 0] rfl) ?_
 rintro ⟨i, n⟩ ⟨hi, hn⟩
 show VC _ _ _ _ [(0, .pointer (some ⟨b, 0, none⟩)), (3, .int .i64 n), (4, .int .i64 (i : Int))] (RfL b K hO T)
 refine vc_seq ?_
 refine vc_seq ?_
 refine vc_region ?_
 iterate 3 refine vp ?_
 refine vc_y (y_fieldP fl_67_2 5 rfl rfl) rfl ?_
 refine vc_y (y_load1 0 rfl one_65 rfl (Pts.vis rfl)) rfl ?_
 refine vc_y (y_len Tryz.underlying65 rfl (by first | assumption | rfl)) rfl ?_
 refine vp ?_
 refine vc_nil ?_
 refine vc_then ?_
 first | refine vc_condP rfl (fun c11 => ?_) (fun c11 => ?_) | refine vc_condN rfl (fun c11 => ?_) (fun c11 => ?_) | refine vc_cond rfl (fun c11 => ?_) (fun c11 => ?_)
 ·skip
  have hi2 : i < T.length := by omega
  have hb := (hT.take i).vers
  rw [← hn] at hb
  have hb2 := hT.len _ (List.getElem_mem hi2)
  have hb3 := hT.n
  rw [List.length_take] at hb
  refine vc_skip ?_
  refine vc_then ?_
  refine vc_seq ?_
  refine vc_block ?_
  refine vc_region ?_
  iterate 3 refine vp ?_
  refine vc_y (y_fieldP fl_67_2 5 rfl rfl) rfl ?_
  refine vc_y (y_load1 0 rfl one_65 rfl (Pts.vis rfl)) rfl ?_
  refine vp ?_
  refine vc_y (y_elem 1 rfl (RoSl.vis) i rfl hi2 sl_65 rfl rfl) rfl ?_
  refine vc_y (y_fieldE fl_152_1 1 rfl rfl) rfl ?_
  refine vc_y (y_load1 1 rfl one_138 rfl (Rd.vis1 (RoSl.vis) (List.getElem?_eq_getElem (by first | assumption | omega)) rfl)) rfl ?_
  refine vc_see 2 rfl ((RoM.vis (List.getElem_mem hi2)).imp fun w r => r.len) (fun hlc => ?_)
  refine vc_y (y_len Tryz.underlying138 rfl (by first | assumption | rfl)) rfl ?_
  first | refine vc_y (y_arith _ rfl (wrap64 (by omega) (by omega))) rfl ?_ | refine vp ?_
  refine vp ?_
  refine vc_nil ?_
  refine vc_inNormal ?_
  refine vc_then ?_
  refine vc_region ?_
  refine vp ?_
  first | refine vc_y (y_arith _ rfl (wrapNadd (by omega))) rfl ?_ | refine vc_y (y_arith _ rfl (wrap64 (by omega) (by omega))) rfl ?_ | refine vp ?_
  refine vp ?_
  refine vc_nil ?_
  refine vc_then ?_
  exact vc_again (x := (i, n)) (i + 1, n + (T[i].2.2.length : Int)) ⟨hi2, by rw [hn]; unfold versM; rw [sumM_succ _ hi2]⟩ (by show T.length - (i + 1) < T.length - i; omega) ⟨rfl, rfl, rfl, trivial⟩ (ent_pick [0, 0, 0] rfl)
 ·skip
  obtain rfl : i = T.length := by omega
  rw [List.take_length] at hn
  refine vc_exit ?_
  refine vc_thenExit ?_
  refine vc_thenExit ?_
  refine vc_inExit ?_
  refine vc_then ?_
  refine vc_seq ?_
  refine vc_region ?_
  refine vp ?_
  refine vp ?_
  refine vc_nil ?_
  refine vc_then ?_
  refine vc_ret ?_
  exact vc_end1 Tryz.results91 rfl _ (ent_pick [0, 0, 0] rfl) ⟨by rw [hn], rfl⟩
theorem rfLive {b : Nat} {K : RfK} {hO : SH} {T : List On} (hT : TOk T) : Does Tryz.prog 89 [.pointer (some ⟨b, 0, none⟩)] (RfL b K hO T) (fun v l => v = .int .i64 (liveM (mpT T)) ∧ l = RfL b K hO T) := by
 refine spec_of Tryz.func89 rfl Tryz.ntmps89 Tryz.results89 _ (by simp) fun ι F => ?_
 refine vc_see 1 rfl (RoSl.vis.imp fun w r => r.len) (fun hlen => ?_)
 refine vc_seq ?_
 refine vc_region ?_
 refine vp ?_
 refine vc_nil ?_
 refine vc_then ?_
 refine vc_seq ?_
 refine vc_region ?_
 refine vp ?_
 refine vc_nil ?_
 refine vc_then ?_
 refine vc_seq ?_
 refine vc_seq ?_
 refine vc_region ?_
 refine vp ?_
 refine vc_nil ?_
 refine vc_then ?_
 refine vc_block ?_
 refine vc_loop (α := Nat × Int) (fun xq_ => match xq_ with | (i, n) => [(0, .pointer (some ⟨b, 0, none⟩)), (3, .int .i64 n), (4, .int .i64 (i : Int))]) (fun xq_ => match xq_ with | (i, n) => RfL b K hO T) (fun xq_ => match xq_ with | (i, n) => T.length - i) (fun xq_ => match xq_ with | (i, n) => i ≤ T.length ∧ n = liveM (mpT (T.take i))) (0, 0) ⟨Nat.zero_le _, by simp [mpT, liveM, sumM]⟩ ⟨rfl, rfl, rfl, trivial⟩ (ent_pick [0, 0, 0] rfl) ?_
 rintro ⟨i, n⟩ ⟨hi, hn⟩
 show VC _ _ _ _ [(0, .pointer (some ⟨b, 0, none⟩)), (3, .int .i64 n), (4, .int .i64 (i : Int))] (RfL b K hO T)
 refine vc_seq ?_
 refine vc_seq ?_
 refine vc_region ?_
 iterate 3 refine vp ?_
 refine vc_y (y_fieldP fl_67_2 5 rfl rfl) rfl ?_
 refine vc_y (y_load1 0 rfl one_65 rfl (Pts.vis rfl)) rfl ?_
 refine vc_y (y_len Tryz.underlying65 rfl (by first | assumption | rfl)) rfl ?_
 refine vp ?_
 refine vc_nil ?_
 refine vc_then ?_
 first | refine vc_condP rfl (fun c12 => ?_) (fun c12 => ?_) | refine vc_condN rfl (fun c12 => ?_) (fun c12 => ?_) | refine vc_cond rfl (fun c12 => ?_) (fun c12 => ?_)
 ·skip
  have hi2 : i < T.length := by omega
  have hb := (hT.take i).live
  rw [← hn] at hb
  have hb2 := hT.k _ (List.getElem_mem hi2)
  have hb3 := hT.n
  have hb4 := cWeight_le T[i].2.2
  rw [List.length_take] at hb
  refine vc_skip ?_
  refine vc_then ?_
  refine vc_seq ?_
  refine vc_block ?_
  refine vc_seq ?_
  refine vc_region ?_
  refine vp ?_
  refine vp ?_
  refine vc_y (y_fieldP fl_67_2 5 rfl rfl) rfl ?_
  refine vc_y (y_load1 0 rfl one_65 rfl (Pts.vis rfl)) rfl ?_
  refine vp ?_
  refine vc_y (y_elem 1 rfl (RoSl.vis) i rfl hi2 sl_65 rfl rfl) rfl ?_
  refine vc_y (y_fieldE fl_152_1 1 rfl rfl) rfl ?_
  refine vc_y (y_load1 1 rfl one_138 rfl (Rd.vis1 (RoSl.vis) (List.getElem?_eq_getElem (by first | assumption | omega)) rfl)) rfl ?_
  refine vc_callv ca_136 (us := []) (vs := []) rfl [_] rfl [2] rfl (refWeight_spec (RoM.vis (List.getElem_mem hi2)) (by have := hT.len _ (List.getElem_mem hi2); omega) (hT.c _ (List.getElem_mem hi2))) rfl ?_
  rintro _ _ ⟨rfl, rfl⟩
  refine vp ?_
  refine vc_nil ?_
  refine vc_then ?_
  refine vc_seq ?_
  refine vc_region ?_
  refine vp ?_
  refine vp ?_
  refine vc_nil ?_
  refine vc_then ?_
  first | refine vc_condP rfl (fun c25 => ?_) (fun c25 => ?_) | refine vc_condN rfl (fun c25 => ?_) (fun c25 => ?_) | refine vc_cond rfl (fun c25 => ?_) (fun c25 => ?_)
  ·skip
   refine vc_region ?_
   refine vp ?_
   refine vp ?_
   first | refine vc_y (y_arith _ rfl (wrap64 (by omega) (by omega))) rfl ?_ | refine vp ?_
   refine vp ?_
   refine vp ?_
   refine vc_y (y_fieldP fl_67_2 5 rfl rfl) rfl ?_
   refine vc_y (y_load1 1 rfl one_65 rfl (Pts.vis rfl)) rfl ?_
   refine vp ?_
   refine vc_y (y_elem 2 rfl (RoSl.vis) i rfl hi2 sl_65 rfl rfl) rfl ?_
   refine vc_y (y_fieldE fl_152_0 0 rfl rfl) rfl ?_
   refine vc_y (y_load1 2 rfl one_9 rfl (Rd.vis1 (RoSl.vis) (List.getElem?_eq_getElem (by first | assumption | omega)) rfl)) rfl ?_
   refine vc_y (y_strLen Tryz.underlying9 rfl) rfl ?_
   first | refine vc_y (y_arith _ rfl (wrap64 (by omega) (by omega))) rfl ?_ | refine vp ?_
   refine vp ?_
   refine vc_nil ?_
   refine vc_inNormal ?_
   refine vc_then ?_
   refine vc_region ?_
   refine vp ?_
   first | refine vc_y (y_arith _ rfl (wrapNadd (by omega))) rfl ?_ | refine vc_y (y_arith _ rfl (wrap64 (by omega) (by omega))) rfl ?_ | refine vp ?_
   refine vp ?_
   refine vc_nil ?_
   refine vc_then ?_
   first | exact vc_again (x := (i, n)) (i + 1, n + cWeight T[i].2.2 + (T[i].1.size : Int)) ⟨hi2, by rw [hn]; unfold liveM; rw [sumM_succ _ hi2]; simp only [lives]; rw [if_neg (by omega)]; omega⟩ (by show T.length - (i + 1) < T.length - i; omega) ⟨rfl, rfl, rfl, trivial⟩ (ent_pick [1, 1, 0] rfl) | exact vc_again (x := (i, n)) (i + 1, n) ⟨hi2, by rw [hn]; unfold liveM; rw [sumM_succ _ hi2]; simp only [lives]; rw [if_pos (by omega)]; omega⟩ (by show T.length - (i + 1) < T.length - i; omega) ⟨rfl, rfl, rfl, trivial⟩ (ent_pick [1, 1, 0] rfl)
  ·skip
   refine vc_skip ?_
   refine vc_inNormal ?_
   refine vc_then ?_
   refine vc_region ?_
   refine vp ?_
   first | refine vc_y (y_arith _ rfl (wrapNadd (by omega))) rfl ?_ | refine vc_y (y_arith _ rfl (wrap64 (by omega) (by omega))) rfl ?_ | refine vp ?_
   refine vp ?_
   refine vc_nil ?_
   refine vc_then ?_
   first | exact vc_again (x := (i, n)) (i + 1, n + cWeight T[i].2.2 + (T[i].1.size : Int)) ⟨hi2, by rw [hn]; unfold liveM; rw [sumM_succ _ hi2]; simp only [lives]; rw [if_neg (by omega)]; omega⟩ (by show T.length - (i + 1) < T.length - i; omega) ⟨rfl, rfl, rfl, trivial⟩ (ent_pick [1, 1, 0] rfl) | exact vc_again (x := (i, n)) (i + 1, n) ⟨hi2, by rw [hn]; unfold liveM; rw [sumM_succ _ hi2]; simp only [lives]; rw [if_pos (by omega)]; omega⟩ (by show T.length - (i + 1) < T.length - i; omega) ⟨rfl, rfl, rfl, trivial⟩ (ent_pick [1, 1, 0] rfl)
 ·skip
  obtain rfl : i = T.length := by omega
  rw [List.take_length] at hn
  refine vc_exit ?_
  refine vc_thenExit ?_
  refine vc_thenExit ?_
  refine vc_inExit ?_
  refine vc_then ?_
  refine vc_seq ?_
  refine vc_region ?_
  refine vp ?_
  refine vp ?_
  refine vc_nil ?_
  refine vc_then ?_
  refine vc_ret ?_
  exact vc_end1 Tryz.results89 rfl _ (ent_pick [0, 0, 0] rfl) ⟨by rw [hn], rfl⟩
theorem rfChain {b : Nat} {K : RfK} {hO : SH} {T : List On} (hn : T.length ≤ 200000) (key : ByteArray) : Does Tryz.prog 97 [.pointer (some ⟨b, 0, none⟩), .string key] (RfL b K hO T) (fun v l => v = (onT T key).2.1.v ∧ l = RfL b K hO T) := by
 refine spec_of Tryz.func97 rfl Tryz.ntmps97 Tryz.results97 _ (by simp) fun ι F => ?_
 refine vc_see 1 rfl (RoSl.vis.imp fun w r => r.len) (fun hlen => ?_)
 refine vc_seq ?_
 refine vc_region ?_
 refine vp ?_
 refine vc_nil ?_
 refine vc_then ?_
 refine vc_seq ?_
 refine vc_seq ?_
 refine vc_region ?_
 refine vp ?_
 refine vc_nil ?_
 refine vc_then ?_
 refine vc_block ?_
 refine vc_loop (α := Nat) (fun xq_ => match xq_ with | i => [(0, .pointer (some ⟨b, 0, none⟩)), (1, .string key), (5, .int .i64 (i : Int))]) (fun xq_ => match xq_ with | i => RfL b K hO T) (fun xq_ => match xq_ with | i => T.length - i) (fun xq_ => match xq_ with | i => i ≤ T.length ∧ (T.find? fun p => sEq p.1 key) = (T.drop i).find? fun p => sEq p.1 key) 0 ⟨Nat.zero_le _, rfl⟩ ⟨rfl, rfl, rfl, trivial⟩ (ent_pick [0, 0, 0] rfl) ?_
 rintro i ⟨hi, hf⟩
 show VC _ _ _ _ [(0, .pointer (some ⟨b, 0, none⟩)), (1, .string key), (5, .int .i64 (i : Int))] (RfL b K hO T)
 refine vc_seq ?_
 refine vc_seq ?_
 refine vc_region ?_
 iterate 3 refine vp ?_
 refine vc_y (y_fieldP fl_67_2 5 rfl rfl) rfl ?_
 refine vc_y (y_load1 0 rfl one_65 rfl (Pts.vis rfl)) rfl ?_
 refine vc_y (y_len Tryz.underlying65 rfl (by first | assumption | rfl)) rfl ?_
 refine vp ?_
 refine vc_nil ?_
 refine vc_then ?_
 first | refine vc_condP rfl (fun c12 => ?_) (fun c12 => ?_) | refine vc_condN rfl (fun c12 => ?_) (fun c12 => ?_) | refine vc_cond rfl (fun c12 => ?_) (fun c12 => ?_)
 ·skip
  have hi2 : i < T.length := by omega
  refine vc_skip ?_
  refine vc_then ?_
  refine vc_seq ?_
  refine vc_block ?_
  refine vc_seq ?_
  refine vc_region ?_
  refine vp ?_
  refine vp ?_
  refine vc_y (y_fieldP fl_67_2 5 rfl rfl) rfl ?_
  refine vc_y (y_load1 0 rfl one_65 rfl (Pts.vis rfl)) rfl ?_
  refine vp ?_
  refine vc_y (y_elem 1 rfl (RoSl.vis) i rfl hi2 sl_65 rfl rfl) rfl ?_
  refine vc_y (y_fieldE fl_152_0 0 rfl rfl) rfl ?_
  refine vc_y (y_load1 1 rfl one_9 rfl (Rd.vis1 (RoSl.vis) (List.getElem?_eq_getElem (by first | assumption | omega)) rfl)) rfl ?_
  refine vp ?_
  refine vp ?_
  refine vc_nil ?_
  refine vc_then ?_
  first | refine vc_condP rfl (fun c24 => ?_) (fun c24 => ?_) | refine vc_condN rfl (fun c24 => ?_) (fun c24 => ?_) | refine vc_cond rfl (fun c24 => ?_) (fun c24 => ?_)
  ·skip
   refine vc_seq ?_
   refine vc_region ?_
   refine vp ?_
   refine vp ?_
   refine vc_y (y_fieldP fl_67_2 5 rfl rfl) rfl ?_
   refine vc_y (y_load1 0 rfl one_65 rfl (Pts.vis rfl)) rfl ?_
   refine vp ?_
   refine vc_y (y_elem 1 rfl (RoSl.vis) i rfl hi2 sl_65 rfl rfl) rfl ?_
   refine vc_y (y_fieldE fl_152_1 1 rfl rfl) rfl ?_
   refine vc_y (y_load1 1 rfl one_138 rfl (Rd.vis1 (RoSl.vis) (List.getElem?_eq_getElem (by first | assumption | omega)) rfl)) rfl ?_
   refine vp ?_
   refine vc_nil ?_
   refine vc_then ?_
   refine vc_ret ?_
   refine vc_inRet ?_
   refine vc_thenRet ?_
   refine vc_thenRet ?_
   refine vc_inRet ?_
   refine vc_thenRet ?_
   exact vc_end1 Tryz.results97 rfl _ (ent_pick [0, 0, 0] rfl) ⟨by unfold onT; rw [hf, List.drop_eq_getElem_cons hi2, List.find?_cons_of_pos (by simpa using c24)]; rfl, rfl⟩
  ·skip
   refine vc_skip ?_
   refine vc_inNormal ?_
   refine vc_then ?_
   refine vc_region ?_
   refine vp ?_
   first | refine vc_y (y_arith _ rfl (wrapNadd (by omega))) rfl ?_ | refine vc_y (y_arith _ rfl (wrap64 (by omega) (by omega))) rfl ?_ | refine vp ?_
   refine vp ?_
   refine vc_nil ?_
   refine vc_then ?_
   exact vc_again (x := i) (i + 1) ⟨hi2, by rw [hf, List.drop_eq_getElem_cons hi2, List.find?_cons_of_neg (by simpa using c24)]⟩ (by show T.length - (i + 1) < T.length - i; omega) ⟨rfl, rfl, rfl, trivial⟩ (ent_pick [0, 0, 0] rfl)
 ·skip
  obtain rfl : i = T.length := by omega
  refine vc_exit ?_
  refine vc_thenExit ?_
  refine vc_thenExit ?_
  refine vc_inExit ?_
  refine vc_then ?_
  refine vc_seq ?_
  refine vc_region ?_
  refine vp ?_
  refine vc_nil ?_
  refine vc_then ?_
  refine vc_ret ?_
  exact vc_end1 Tryz.results97 rfl _ (ent_pick [0, 0, 0] rfl) ⟨by unfold onT; rw [hf, List.drop_length]; rfl, rfl⟩
theorem rfFrom {b : Nat} {K : RfK} {hO : SH} {T : List On} (hT : TOk T) (key : ByteArray) (above : Bool) (seq : Int) : Does Tryz.prog 98 [.pointer (some ⟨b, 0, none⟩), .string key, .bool above, .int .i64 seq] (RfL b K hO T) (fun v l => v = .int .i64 (fromI key above seq (mpT T) 0) ∧ l = RfL b K hO T) := by
 refine spec_of Tryz.func98 rfl Tryz.ntmps98 Tryz.results98 _ (by simp) fun ι F => ?_
 refine vc_see 1 rfl (RoSl.vis.imp fun w r => r.len) (fun hlen => ?_)
 refine vc_seq ?_
 refine vc_region ?_
 refine vp ?_
 refine vc_nil ?_
 refine vc_then ?_
 refine vc_seq ?_
 refine vc_seq ?_
 refine vc_region ?_
 refine vp ?_
 refine vc_nil ?_
 refine vc_then ?_
 refine vc_block ?_
 refine vc_loop (α := Nat) (fun xq_ => match xq_ with | i => [(0, .pointer (some ⟨b, 0, none⟩)), (1, .string key), (2, .bool above), (3, .int .i64 seq), (9, .int .i64 (i : Int))]) (fun xq_ => match xq_ with | i => RfL b K hO T) (fun xq_ => match xq_ with | i => T.length - i) (fun xq_ => match xq_ with | i => i ≤ T.length ∧ fromI key above seq (mpT T) 0 = fromI key above seq (mpT (T.drop i)) i) 0 ⟨Nat.zero_le _, rfl⟩ ⟨rfl, rfl, rfl, rfl, rfl, trivial⟩ (ent_pick [0, 0, 0] rfl) ?_
 rintro i ⟨hi, hf⟩
 show VC _ _ _ _ [(0, .pointer (some ⟨b, 0, none⟩)), (1, .string key), (2, .bool above), (3, .int .i64 seq), (9, .int .i64 (i : Int))] (RfL b K hO T)
 refine vc_seq ?_
 refine vc_seq ?_
 refine vc_region ?_
 iterate 3 refine vp ?_
 refine vc_y (y_fieldP fl_67_2 5 rfl rfl) rfl ?_
 refine vc_y (y_load1 0 rfl one_65 rfl (Pts.vis rfl)) rfl ?_
 refine vc_y (y_len Tryz.underlying65 rfl (by first | assumption | rfl)) rfl ?_
 refine vp ?_
 refine vc_nil ?_
 refine vc_then ?_
 first | refine vc_condP rfl (fun c18 => ?_) (fun c18 => ?_) | refine vc_condN rfl (fun c18 => ?_) (fun c18 => ?_) | refine vc_cond rfl (fun c18 => ?_) (fun c18 => ?_)
 ·skip
  have hi2 : i < T.length := by omega
  have hb3 := hT.n
  have hf2 : fromI key above seq (mpT T) 0 = if (verAt T[i].2.2 seq).isSome && (sLt key T[i].1 || (!above && sEq T[i].1 key)) then (i : Int) else fromI key above seq (mpT (T.drop (i + 1))) (i + 1) := by rw [hf, lead_take hi2]; rfl
  refine vc_skip ?_
  refine vc_then ?_
  refine vc_seq ?_
  refine vc_block ?_
  refine vc_seq ?_
  refine vc_region ?_
  refine vp ?_
  refine vp ?_
  refine vc_y (y_fieldP fl_67_2 5 rfl rfl) rfl ?_
  refine vc_y (y_load1 0 rfl one_65 rfl (Pts.vis rfl)) rfl ?_
  refine vp ?_
  refine vc_y (y_elem 1 rfl (RoSl.vis) i rfl hi2 sl_65 rfl rfl) rfl ?_
  refine vc_y (y_fieldE fl_152_1 1 rfl rfl) rfl ?_
  refine vc_y (y_load1 1 rfl one_138 rfl (Rd.vis1 (RoSl.vis) (List.getElem?_eq_getElem (by first | assumption | omega)) rfl)) rfl ?_
  refine vp ?_
  refine vc_callv ca_96 (us := []) (vs := []) rfl [_, _] rfl [2] rfl (refAt_spec (RoM.vis (List.getElem_mem hi2)) (by have := hT.len _ (List.getElem_mem hi2); omega) (hT.c _ (List.getElem_mem hi2)) seq) rfl ?_
  rintro _ _ ⟨rfl, rfl⟩
  iterate 3 refine vp ?_
  refine vc_alloc [.int .i64 0, .bool false, .bool false, .string ⟨#[]⟩, .int .u64 0] ze_135 rfl rfl (fun b10 => ?_)
  refine vc_storeP 0 rfl [_, _, _, _, _] [_, _, _, _, _] rfl rfl rfl sz_135 rfl rfl rfl ?_
  refine vp ?_
  refine vc_nil ?_
  refine vc_then ?_
  refine vc_seq ?_
  refine vc_region ?_
  refine vp ?_
  refine vp ?_
  first | refine vc_splitP 35 rfl (fun c35 => ?_) (fun c35 => ?_) | refine vc_splitN 35 rfl (fun c35 => ?_) (fun c35 => ?_) | refine vc_split 35 rfl (fun c35 => ?_) (fun c35 => ?_)
  ·skip
   refine vc_guardT 35 rfl rfl ?_
   refine vp ?_
   refine vc_guardT 35 rfl rfl ?_
   refine vp ?_
   refine vc_guardT 35 rfl rfl ?_
   refine vc_y (y_fieldP fl_67_2 5 rfl rfl) rfl ?_
   refine vc_guardT 35 rfl rfl ?_
   refine vc_y (y_load1 2 rfl one_65 rfl (Pts.vis rfl)) rfl ?_
   refine vc_guardT 35 rfl rfl ?_
   refine vp ?_
   refine vc_guardT 35 rfl rfl ?_
   refine vc_y (y_elem 3 rfl (RoSl.vis) i rfl hi2 sl_65 rfl rfl) rfl ?_
   refine vc_guardT 35 rfl rfl ?_
   refine vc_y (y_fieldE fl_152_0 0 rfl rfl) rfl ?_
   refine vc_guardT 35 rfl rfl ?_
   refine vc_y (y_load1 3 rfl one_9 rfl (Rd.vis1 (RoSl.vis) (List.getElem?_eq_getElem (by first | assumption | omega)) rfl)) rfl ?_
   refine vc_guardT 35 rfl rfl ?_
   refine vp ?_
   refine vc_guardT 35 rfl rfl ?_
   refine vp ?_
   refine vc_guardT 35 rfl rfl ?_
   refine vp ?_
   first | refine vc_splitP 46 rfl (fun c46 => ?_) (fun c46 => ?_) | refine vc_splitN 46 rfl (fun c46 => ?_) (fun c46 => ?_) | refine vc_split 46 rfl (fun c46 => ?_) (fun c46 => ?_)
   ·skip
    rw [sGt_eq] at c46
    refine vc_guardF 46 rfl rfl rfl rfl ?_
    refine vc_guardF 46 rfl rfl rfl rfl ?_
    refine vc_guardF 46 rfl rfl rfl rfl ?_
    refine vc_guardU 49 rfl rfl rfl ?_
    refine vc_guardU 49 rfl rfl rfl ?_
    refine vc_guardU 49 rfl rfl rfl ?_
    refine vc_guardU 49 rfl rfl rfl ?_
    refine vc_guardU 49 rfl rfl rfl ?_
    refine vc_guardU 49 rfl rfl rfl ?_
    refine vc_guardU 49 rfl rfl rfl ?_
    refine vc_guardU 49 rfl rfl rfl ?_
    refine vc_guardU 49 rfl rfl rfl ?_
    refine vc_guardU 49 rfl rfl rfl ?_
    refine vc_guardF 46 rfl rfl rfl rfl ?_
    refine vc_guardT 35 rfl rfl ?_
    refine vp ?_
    refine vp ?_
    refine vc_nil ?_
    refine vc_then ?_
    refine vc_condT rfl ?_
    refine vc_seq ?_
    refine vc_region ?_
    refine vp ?_
    refine vp ?_
    refine vc_nil ?_
    refine vc_then ?_
    refine vc_ret ?_
    refine vc_inRet ?_
    refine vc_thenRet ?_
    refine vc_thenRet ?_
    refine vc_inRet ?_
    refine vc_thenRet ?_
    exact vc_end1 Tryz.results98 rfl _ (ent_pick [2, 2, 1] rfl) ⟨by first | (rw [hf, List.drop_length]; rfl) | (rw [hf2, if_pos (by simp [*])]), rfl⟩
   ·skip
    rw [sGt_eq] at c46
    refine vc_guardT 46 rfl rfl ?_
    refine vp ?_
    refine vc_guardT 46 rfl rfl ?_
    refine vp ?_
    refine vc_guardT 46 rfl rfl ?_
    refine vp ?_
    first | refine vc_splitP 49 rfl (fun c49 => ?_) (fun c49 => ?_) | refine vc_splitN 49 rfl (fun c49 => ?_) (fun c49 => ?_) | refine vc_split 49 rfl (fun c49 => ?_) (fun c49 => ?_)
    ·skip
     refine vc_guardT 49 rfl rfl ?_
     refine vp ?_
     refine vc_guardT 49 rfl rfl ?_
     refine vp ?_
     refine vc_guardT 49 rfl rfl ?_
     refine vc_y (y_fieldP fl_67_2 5 rfl rfl) rfl ?_
     refine vc_guardT 49 rfl rfl ?_
     refine vc_y (y_load1 2 rfl one_65 rfl (Pts.vis rfl)) rfl ?_
     refine vc_guardT 49 rfl rfl ?_
     refine vp ?_
     refine vc_guardT 49 rfl rfl ?_
     refine vc_y (y_elem 3 rfl (RoSl.vis) i rfl hi2 sl_65 rfl rfl) rfl ?_
     refine vc_guardT 49 rfl rfl ?_
     refine vc_y (y_fieldE fl_152_0 0 rfl rfl) rfl ?_
     refine vc_guardT 49 rfl rfl ?_
     refine vc_y (y_load1 3 rfl one_9 rfl (Rd.vis1 (RoSl.vis) (List.getElem?_eq_getElem (by first | assumption | omega)) rfl)) rfl ?_
     refine vc_guardT 49 rfl rfl ?_
     refine vp ?_
     refine vc_guardT 49 rfl rfl ?_
     refine vp ?_
     refine vc_guardT 46 rfl rfl ?_
     refine vp ?_
     refine vc_guardT 35 rfl rfl ?_
     refine vp ?_
     refine vp ?_
     refine vc_nil ?_
     refine vc_then ?_
     first | refine vc_condP rfl (fun c62 => ?_) (fun c62 => ?_) | refine vc_condN rfl (fun c62 => ?_) (fun c62 => ?_) | refine vc_cond rfl (fun c62 => ?_) (fun c62 => ?_)
     ·skip
      refine vc_seq ?_
      refine vc_region ?_
      refine vp ?_
      refine vp ?_
      refine vc_nil ?_
      refine vc_then ?_
      refine vc_ret ?_
      refine vc_inRet ?_
      refine vc_thenRet ?_
      refine vc_thenRet ?_
      refine vc_inRet ?_
      refine vc_thenRet ?_
      exact vc_end1 Tryz.results98 rfl _ (ent_pick [2, 2, 1] rfl) ⟨by first | (rw [hf, List.drop_length]; rfl) | (rw [hf2, if_pos (by simp [*])]), rfl⟩
     ·skip
      refine vc_skip ?_
      refine vc_inNormal ?_
      refine vc_then ?_
      refine vc_region ?_
      refine vp ?_
      first | refine vc_y (y_arith _ rfl (wrapNadd (by omega))) rfl ?_ | refine vc_y (y_arith _ rfl (wrap64 (by omega) (by omega))) rfl ?_ | refine vp ?_
      refine vp ?_
      refine vc_nil ?_
      refine vc_then ?_
      exact vc_again (x := i) (i + 1) ⟨hi2, by rw [hf2]; refine if_neg ?_; simp [*]⟩ (by show T.length - (i + 1) < T.length - i; omega) ⟨rfl, rfl, rfl, rfl, rfl, trivial⟩ (ent_pick [2, 2, 1] rfl)
    ·skip
     refine vc_guardF 49 rfl rfl rfl rfl ?_
     refine vc_guardF 49 rfl rfl rfl rfl ?_
     refine vc_guardF 49 rfl rfl rfl rfl ?_
     refine vc_guardF 49 rfl rfl rfl rfl ?_
     refine vc_guardF 49 rfl rfl rfl rfl ?_
     refine vc_guardF 49 rfl rfl rfl rfl ?_
     refine vc_guardF 49 rfl rfl rfl rfl ?_
     refine vc_guardF 49 rfl rfl rfl rfl ?_
     refine vc_guardF 49 rfl rfl rfl rfl ?_
     refine vc_guardF 49 rfl rfl rfl rfl ?_
     refine vc_guardT 46 rfl rfl ?_
     refine vp ?_
     refine vc_guardT 35 rfl rfl ?_
     refine vp ?_
     refine vp ?_
     refine vc_nil ?_
     refine vc_then ?_
     refine vc_condF rfl ?_
     refine vc_skip ?_
     refine vc_inNormal ?_
     refine vc_then ?_
     refine vc_region ?_
     refine vp ?_
     first | refine vc_y (y_arith _ rfl (wrapNadd (by omega))) rfl ?_ | refine vc_y (y_arith _ rfl (wrap64 (by omega) (by omega))) rfl ?_ | refine vp ?_
     refine vp ?_
     refine vc_nil ?_
     refine vc_then ?_
     exact vc_again (x := i) (i + 1) ⟨hi2, by rw [hf2]; refine if_neg ?_; simp [*]⟩ (by show T.length - (i + 1) < T.length - i; omega) ⟨rfl, rfl, rfl, rfl, rfl, trivial⟩ (ent_pick [2, 2, 1] rfl)
  ·skip
   refine vc_guardF 35 rfl rfl rfl rfl ?_
   refine vc_guardF 35 rfl rfl rfl rfl ?_
   refine vc_guardF 35 rfl rfl rfl rfl ?_
   refine vc_guardF 35 rfl rfl rfl rfl ?_
   refine vc_guardF 35 rfl rfl rfl rfl ?_
   refine vc_guardF 35 rfl rfl rfl rfl ?_
   refine vc_guardF 35 rfl rfl rfl rfl ?_
   refine vc_guardF 35 rfl rfl rfl rfl ?_
   refine vc_guardF 35 rfl rfl rfl rfl ?_
   refine vc_guardF 35 rfl rfl rfl rfl ?_
   refine vc_guardF 35 rfl rfl rfl rfl ?_
   refine vc_guardU 46 rfl rfl rfl ?_
   refine vc_guardU 46 rfl rfl rfl ?_
   refine vc_guardU 46 rfl rfl rfl ?_
   refine vc_guardU 49 rfl rfl rfl ?_
   refine vc_guardU 49 rfl rfl rfl ?_
   refine vc_guardU 49 rfl rfl rfl ?_
   refine vc_guardU 49 rfl rfl rfl ?_
   refine vc_guardU 49 rfl rfl rfl ?_
   refine vc_guardU 49 rfl rfl rfl ?_
   refine vc_guardU 49 rfl rfl rfl ?_
   refine vc_guardU 49 rfl rfl rfl ?_
   refine vc_guardU 49 rfl rfl rfl ?_
   refine vc_guardU 49 rfl rfl rfl ?_
   refine vc_guardU 46 rfl rfl rfl ?_
   refine vc_guardF 35 rfl rfl rfl rfl ?_
   refine vp ?_
   refine vc_nil ?_
   refine vc_then ?_
   refine vc_condF rfl ?_
   refine vc_skip ?_
   refine vc_inNormal ?_
   refine vc_then ?_
   refine vc_region ?_
   refine vp ?_
   first | refine vc_y (y_arith _ rfl (wrapNadd (by omega))) rfl ?_ | refine vc_y (y_arith _ rfl (wrap64 (by omega) (by omega))) rfl ?_ | refine vp ?_
   refine vp ?_
   refine vc_nil ?_
   refine vc_then ?_
   exact vc_again (x := i) (i + 1) ⟨hi2, by rw [hf2]; refine if_neg ?_; simp [*]⟩ (by show T.length - (i + 1) < T.length - i; omega) ⟨rfl, rfl, rfl, rfl, rfl, trivial⟩ (ent_pick [2, 2, 1] rfl)
 ·skip
  obtain rfl : i = T.length := by omega
  have hb3 := hT.n
  refine vc_exit ?_
  refine vc_thenExit ?_
  refine vc_thenExit ?_
  refine vc_inExit ?_
  refine vc_then ?_
  refine vc_seq ?_
  refine vc_region ?_
  refine vp ?_
  refine vc_nil ?_
  refine vc_then ?_
  refine vc_ret ?_
  exact vc_end1 Tryz.results98 rfl _ (ent_pick [0, 0, 0] rfl) ⟨by first | (rw [hf, List.drop_length]; rfl) | (rw [hf2, if_pos (by simp [*])]), rfl⟩
end Go.Proofs.YtcpbibdbahfgaaaGreat
