/-
 The references of numbers and values.
-/
import Derived.Test.YtcpbibdbahfgaaaGreatChain
set_option linter.unusedVariables false
set_option linter.unusedSimpArgs false
set_option autoImplicit false
set_option maxHeartbeats 4000000
namespace Go.Proofs.YtcpbibdbahfgaaaGreat
open Go.Eng
namespace FRef1
theorem ca_175 : Callable Tryz.prog 175 := ⟨_, _, Tryz.func175, rfl, rfl⟩
theorem ca_139 : Callable Tryz.prog 139 := ⟨_, _, Tryz.func139, rfl, rfl⟩
theorem fl_45_0 : Fld Tryz.prog 45 0 0 := ⟨_, _, 0, Tryz.underlying45, rfl, rfl, by kernel_rfl⟩
theorem one_4 : TyOne Tryz.prog 4 := ⟨⟨_, Tryz.underlying4, rfl⟩, by kernel_rfl⟩
theorem fl_45_2 : Fld Tryz.prog 45 2 2 := ⟨_, _, 0, Tryz.underlying45, rfl, rfl, by kernel_rfl⟩
theorem one_34 : TyOne Tryz.prog 34 := ⟨⟨_, Tryz.underlying34, rfl⟩, by kernel_rfl⟩
theorem fl_45_1 : Fld Tryz.prog 45 1 1 := ⟨_, _, 0, Tryz.underlying45, rfl, rfl, by kernel_rfl⟩
theorem one_9 : TyOne Tryz.prog 9 := ⟨⟨_, Tryz.underlying9, rfl⟩, by kernel_rfl⟩
theorem ca_103 : Callable Tryz.prog 103 := ⟨_, _, Tryz.func103, rfl, rfl⟩
end FRef1
open FRef1
theorem tdiv_nat (a b : Nat) : ((a : Int)).tdiv (b : Int) = ((a / b : Nat) : Int) := by rw [Int.tdiv_eq_ediv_of_nonneg (by omega)]; omega
theorem tmod_nat (a b : Nat) : ((a : Int)).tmod (b : Int) = ((a % b : Nat) : Int) := by rw [Int.tmod_eq_emod_of_nonneg (by omega)]; omega
theorem nan_parts {b : Nat} (h : b ≤ 18446744073709551615) : (decide (((b / 4503599627370496 % 2048 : Nat) : Int) = 2047) && decide ((0 : Int) < ((b % 4503599627370496 : Nat) : Int))) = nanB b := by
 unfold nanB
 rw [Bool.eq_iff_iff]
 simp only [Bool.and_eq_true, decide_eq_true_eq]
 omega
theorem notT0 {b : Bool} (h : (!b) = true) : b = false := by cases b <;> simp_all
theorem notF0 {b : Bool} (h : (!b) = false) : b = true := by cases b <;> simp_all
theorem size0 (a : ByteArray) : a.size = 0 ↔ sEq a ⟨#[]⟩ = true := by
 rw [sEq_iff]
 constructor
 ·intro h
  obtain ⟨⟨l⟩⟩ := a
  cases l with
  | nil => rfl
  | cons x l => simp [ByteArray.size] at h
 ·intro h; rw [h]; rfl
theorem parts_spec {b : Nat} (hb : b ≤ 18446744073709551615) : Does Tryz.prog 175 [.float .f64 b] [] (fun v l => v = .tuple #[.bool (decide ((9223372036854775808 : Int) ≤ (b : Int))), .int .u64 ((b / 4503599627370496 % 2048 : Nat) : Int), .int .u64 ((b % 4503599627370496 : Nat) : Int)] ∧ l = []) := by
 refine spec_of Tryz.func175 rfl Tryz.ntmps175 Tryz.results175 _ (by simp) fun ι F => ?_
 refine vc_seq ?_
 refine vc_region ?_
 iterate 3 refine vp ?_
 refine vc_nil ?_
 refine vc_then ?_
 refine vc_seq ?_
 refine vc_region ?_
 refine vp ?_
 refine vc_y (y_ext (g := Extern.MathFloatBits.float64bits) Tryz.func140 rfl (by kernel_rfl) (by kernel_rfl) (by kernel_rfl) rfl [_] rfl (.int .u64 (b : Int)) (fun w => rfl)) rfl ?_
 refine vp ?_
 refine vc_nil ?_
 refine vc_then ?_
 refine vc_seq ?_
 refine vc_region ?_
 iterate 3 refine vp ?_
 refine vc_y (y_quo ((b / 4503599627370496 : Nat) : Int) rfl rfl (by decide) (by rw [show (4503599627370496 : Int) = ((4503599627370496 : Nat) : Int) from rfl, tdiv_nat]; exact wrapU64 (by omega) (by omega))) rfl ?_
 refine vc_y (y_rem ((b / 4503599627370496 % 2048 : Nat) : Int) rfl rfl (by decide) (tmod_nat _ 2048)) rfl ?_
 refine vp ?_
 refine vc_y (y_rem ((b % 4503599627370496 : Nat) : Int) rfl rfl (by decide) (tmod_nat _ 4503599627370496)) rfl ?_
 iterate 3 refine vp ?_
 refine vc_nil ?_
 refine vc_then ?_
 refine vc_ret ?_
 exact vc_end3 Tryz.results175 rfl rfl rfl _ (ent_pick [] rfl) ⟨rfl, rfl⟩
theorem refNaN_spec {b : Nat} (hb : b ≤ 18446744073709551615) : Does Tryz.prog 139 [.float .f64 b] [] (fun v l => v = .bool (nanB b) ∧ l = []) := by
 refine spec_of Tryz.func139 rfl Tryz.ntmps139 Tryz.results139 _ (by simp) fun ι F => ?_
 have hnp := nan_parts hb
 refine vc_seq ?_
 refine vc_region ?_
 refine vp ?_
 refine vc_nil ?_
 refine vc_then ?_
 refine vc_seq ?_
 refine vc_region ?_
 refine vp ?_
 refine vc_callv ca_175 (us := []) (vs := []) rfl [_] rfl [] rfl (parts_spec hb) rfl ?_
 rintro _ _ ⟨rfl, rfl⟩
 iterate 7 refine vp ?_
 refine vc_nil ?_
 refine vc_then ?_
 refine vc_seq ?_
 refine vc_region ?_
 iterate 3 refine vp ?_
 first | refine vc_splitP 14 rfl (fun c14 => ?_) (fun c14 => ?_) | refine vc_splitN 14 rfl (fun c14 => ?_) (fun c14 => ?_) | refine vc_split 14 rfl (fun c14 => ?_) (fun c14 => ?_)
 ·skip
  refine vc_guardT 14 rfl rfl ?_
  refine vp ?_
  refine vc_guardT 14 rfl rfl ?_
  iterate 3 refine vp ?_
  refine vc_nil ?_
  refine vc_then ?_
  refine vc_ret ?_
  exact vc_end1 Tryz.results139 rfl _ (ent_pick [] rfl) ⟨by rw [← hnp]; first | (rw [decide_eq_true c14, Bool.true_and]) | (rw [decide_eq_false c14]; rfl), rfl⟩
 ·skip
  refine vc_guardF 14 rfl rfl rfl rfl ?_
  refine vc_guardF 14 rfl rfl rfl rfl ?_
  refine vp ?_
  refine vp ?_
  refine vc_nil ?_
  refine vc_then ?_
  refine vc_ret ?_
  exact vc_end1 Tryz.results139 rfl _ (ent_pick [] rfl) ⟨by rw [← hnp]; first | (rw [decide_eq_true c14, Bool.true_and]) | (rw [decide_eq_false c14]; rfl), rfl⟩
theorem refBits_spec {b : Nat} (hb : b ≤ 18446744073709551615) : Does Tryz.prog 103 [.float .f64 b] [] (fun v l => v = .int .u64 ((canonB b : Nat) : Int) ∧ l = []) := by
 refine spec_of Tryz.func103 rfl Tryz.ntmps103 Tryz.results103 _ (by simp) fun ι F => ?_
 refine vc_seq ?_
 refine vc_region ?_
 refine vp ?_
 refine vc_nil ?_
 refine vc_then ?_
 refine vc_seq ?_
 refine vc_seq ?_
 refine vc_region ?_
 refine vp ?_
 refine vc_callv ca_139 (us := []) (vs := []) rfl [_] rfl [] rfl (refNaN_spec hb) rfl ?_
 rintro _ _ ⟨rfl, rfl⟩
 refine vc_nil ?_
 refine vc_then ?_
 first | refine vc_condP rfl (fun c4 => ?_) (fun c4 => ?_) | refine vc_condN rfl (fun c4 => ?_) (fun c4 => ?_) | refine vc_cond rfl (fun c4 => ?_) (fun c4 => ?_)
 ·skip
  refine vc_seq ?_
  refine vc_region ?_
  refine vp ?_
  refine vc_nil ?_
  refine vc_then ?_
  refine vc_ret ?_
  refine vc_thenRet ?_
  exact vc_end1 Tryz.results103 rfl _ (ent_pick [] rfl) ⟨by simp [canonB, nanB, c4], rfl⟩
 ·skip
  refine vc_skip ?_
  refine vc_then ?_
  refine vc_seq ?_
  refine vc_region ?_
  refine vp ?_
  refine vc_y (y_ext (g := Extern.MathFloatBits.float64bits) Tryz.func140 rfl (by kernel_rfl) (by kernel_rfl) (by kernel_rfl) rfl [_] rfl (.int .u64 (b : Int)) (fun w => rfl)) rfl ?_
  refine vp ?_
  refine vc_nil ?_
  refine vc_then ?_
  refine vc_ret ?_
  exact vc_end1 Tryz.results103 rfl _ (ent_pick [] rfl) ⟨by simp [canonB, nanB, c4], rfl⟩
theorem refVRight_spec (x : Val) (hx : 0 ≤ x.bits ∧ x.bits ≤ 18446744073709551615) : Does Tryz.prog 41 [.agg #[.bool x.num, .string x.text, .int .u64 x.bits]] [] (fun v l => v = .bool (valRight x) ∧ l = []) := by
 refine spec_of Tryz.func41 rfl Tryz.ntmps41 Tryz.results41 _ (by simp) fun ι F => ?_
 refine vc_seq ?_
 refine vc_region ?_
 refine vc_box [_, _, _] rfl rfl rfl (fun b1 => ?_)
 refine vp ?_
 refine vc_nil ?_
 refine vc_then ?_
 refine vc_seq ?_
 refine vc_seq ?_
 refine vc_region ?_
 refine vc_y (y_fieldP fl_45_0 0 rfl rfl) rfl ?_
 refine vc_y (y_load1 0 rfl one_4 rfl (Pts.vis rfl)) rfl ?_
 refine vp ?_
 refine vc_nil ?_
 refine vc_then ?_
 first | refine vc_condP rfl (fun c5 => ?_) (fun c5 => ?_) | refine vc_condN rfl (fun c5 => ?_) (fun c5 => ?_) | refine vc_cond rfl (fun c5 => ?_) (fun c5 => ?_)
 ·skip
  have hn : x.num = false := notT0 c5
  refine vc_seq ?_
  refine vc_region ?_
  refine vc_y (y_fieldP fl_45_2 2 rfl rfl) rfl ?_
  refine vc_y (y_load1 0 rfl one_34 rfl (Pts.vis rfl)) rfl ?_
  refine vp ?_
  refine vp ?_
  first | refine vc_splitP 9 rfl (fun c9 => ?_) (fun c9 => ?_) | refine vc_splitN 9 rfl (fun c9 => ?_) (fun c9 => ?_) | refine vc_split 9 rfl (fun c9 => ?_) (fun c9 => ?_)
  ·skip
   refine vc_guardT 9 rfl rfl ?_
   refine vc_y (y_fieldP fl_45_1 1 rfl rfl) rfl ?_
   refine vc_guardT 9 rfl rfl ?_
   refine vc_y (y_load1 0 rfl one_9 rfl (Pts.vis rfl)) rfl ?_
   refine vc_guardT 9 rfl rfl ?_
   refine vc_y (y_strLen Tryz.underlying9 rfl) rfl ?_
   refine vc_guardT 9 rfl rfl ?_
   iterate 3 refine vp ?_
   refine vc_nil ?_
   refine vc_then ?_
   refine vc_ret ?_
   refine vc_thenRet ?_
   exact vc_end1 Tryz.results41 rfl _ (ent_pick [] rfl) ⟨by simp [valRight, hn, *], rfl⟩
  ·skip
   refine vc_guardF 9 rfl rfl rfl rfl ?_
   refine vc_guardF 9 rfl rfl rfl rfl ?_
   refine vc_guardF 9 rfl rfl rfl rfl ?_
   refine vc_guardF 9 rfl rfl rfl rfl ?_
   refine vp ?_
   refine vp ?_
   refine vc_nil ?_
   refine vc_then ?_
   refine vc_ret ?_
   refine vc_thenRet ?_
   exact vc_end1 Tryz.results41 rfl _ (ent_pick [] rfl) ⟨by simp [valRight, hn, *], rfl⟩
 ·skip
  have hn : x.num = true := notF0 c5
  refine vc_skip ?_
  refine vc_then ?_
  refine vc_seq ?_
  refine vc_draw (by kernel_rfl) _ none [0] rfl ?_
  refine tp 0 rfl (by exact y_fieldP fl_45_1 1 rfl rfl) ?_
  refine tk 1 rfl (by exact y_load1 0 rfl one_9 rfl (Pts.vis rfl)) ?_
  refine tp 2 rfl (by exact y_strLen Tryz.underlying9 rfl) ?_
  refine tpp 3 ?_
  refine tpp 4 ?_
  first | refine va_splitP 19 rfl (fun c19 => ?_) (fun c19 => ?_) | refine va_splitN 19 rfl (fun c19 => ?_) (fun c19 => ?_) | refine va_split 19 rfl (fun c19 => ?_) (fun c19 => ?_)
  ·skip
   have ht : sEq x.text ⟨#[]⟩ = true := (size0 _).1 (by omega)
   refine tg 5 19 rfl (by exact y_fieldP fl_45_2 2 rfl rfl) ?_
   refine tkg 6 19 rfl (by exact y_load1 0 rfl one_34 rfl (Pts.vis rfl)) ?_
   refine tg 9 19 rfl (by exact y_fieldP fl_45_2 2 rfl rfl) ?_
   refine tkg 10 19 rfl (by exact y_load1 0 rfl one_34 rfl (Pts.vis rfl)) ?_
   refine va_ready [7] (by kernel_rfl) rfl ?_
   refine vo_cons rfl (fun hC0 => ?_) ?_
   ·skip
    refine vc_guardT 19 rfl rfl ?_
    refine vc_y (y_ext (g := Extern.MathFloatBits.float64frombits) Tryz.func104 rfl (by kernel_rfl) (by kernel_rfl) (by kernel_rfl) rfl [_] rfl (.float .f64 x.bits.toNat) (fun w => rfl)) rfl ?_
    refine vc_nil ?_
    refine vc_then ?_
    refine va_kept hC0 [0] rfl ?_
    clear hC0
    refine va_ready [8] (by kernel_rfl) rfl ?_
    refine vo_cons rfl (fun hC0 => ?_) ?_
    ·skip
     refine vc_guardT 19 rfl rfl ?_
     refine vc_callv ca_103 (us := []) (vs := []) rfl [_] rfl [] rfl (refBits_spec (b := x.bits.toNat) (by omega)) rfl ?_
     rintro _ _ ⟨rfl, rfl⟩
     refine vc_nil ?_
     refine vc_then ?_
     refine va_kept hC0 [0] rfl ?_
     clear hC0
     refine tgp 11 19 ?_
     refine tpp 12 ?_
     refine tpp 13 ?_
     refine va_done (by kernel_rfl) ?_
     refine vc_then ?_
     refine vc_ret ?_
     exact vc_end1 Tryz.results41 rfl _ (ent_pick [] rfl) ⟨by simp [valRight, hn, *], rfl⟩
    exact vo_nil
   exact vo_nil
  ·skip
   have ht : sEq x.text ⟨#[]⟩ = false := by
    cases h0 : sEq x.text ⟨#[]⟩ with
    | false => rfl
    | true => exact absurd ((size0 _).2 h0) (by omega)
   refine sk 5 19 ?_
   refine sk 6 19 ?_
   refine sk 7 19 ?_
   refine sk 8 19 ?_
   refine sk 9 19 ?_
   refine sk 10 19 ?_
   refine sk 11 19 ?_
   refine tpp 12 ?_
   refine tpp 13 ?_
   refine va_done (by kernel_rfl) ?_
   refine vc_then ?_
   refine vc_ret ?_
   exact vc_end1 Tryz.results41 rfl _ (ent_pick [] rfl) ⟨by simp [valRight, hn, *], rfl⟩
end Go.Proofs.YtcpbibdbahfgaaaGreat
