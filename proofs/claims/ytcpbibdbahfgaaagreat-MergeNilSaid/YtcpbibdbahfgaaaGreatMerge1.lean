/-
 Cursors: made; what is next of a source.
-/
import Derived.Test.YtcpbibdbahfgaaaGreatMergeP
set_option linter.unusedVariables false
set_option linter.unusedSimpArgs false
set_option autoImplicit false
set_option maxHeartbeats 4000000
namespace Go.Proofs.YtcpbibdbahfgaaaGreat
open Go.Eng
namespace FMerge1
theorem ca_179 : Callable Tryz.prog 179 := ⟨_, _, Tryz.func179, rfl, rfl⟩
theorem ca_180 : Callable Tryz.prog 180 := ⟨_, _, Tryz.func180, rfl, rfl⟩
theorem sl_72 : TySl Tryz.prog 72 3 1 := ⟨Tryz.underlying72, by kernel_rfl⟩
theorem one_3 : TyOne Tryz.prog 3 := ⟨⟨_, Tryz.underlying3, rfl⟩, by kernel_rfl⟩
theorem fl_74_2 : Fld Tryz.prog 74 2 2 := ⟨_, _, 0, Tryz.underlying74, rfl, rfl, by kernel_rfl⟩
theorem fl_74_1 : Fld Tryz.prog 74 1 1 := ⟨_, _, 0, Tryz.underlying74, rfl, rfl, by kernel_rfl⟩
theorem one_9 : TyOne Tryz.prog 9 := ⟨⟨_, Tryz.underlying9, rfl⟩, by kernel_rfl⟩
theorem fl_74_0 : Fld Tryz.prog 74 0 0 := ⟨_, _, 0, Tryz.underlying74, rfl, rfl, by kernel_rfl⟩
theorem ep_28 : Tryz.prog.underlying 28 = some (.pointer (Tryz.prog.pointee 28)) := by kernel_rfl
theorem sl_80 : TySl Tryz.prog 80 82 3 := ⟨Tryz.underlying80, by kernel_rfl⟩
theorem ag_82 : TyAgg Tryz.prog 82 3 := ⟨⟨_, Tryz.underlying82, rfl⟩, by kernel_rfl⟩
theorem ze_82 : (Tryz.prog.info? 82).map (·.zero) = some (some (.agg #[.pointer none, .int .i64 0, .int .i64 0])) := by kernel_rfl
theorem sz_82 : (Tryz.prog.info? 82).map (·.size) = some 3 := by kernel_rfl
theorem fl_82_0 : Fld Tryz.prog 82 0 0 := ⟨_, _, 0, Tryz.underlying82, rfl, rfl, by kernel_rfl⟩
theorem one_28 : TyOne Tryz.prog 28 := ⟨⟨_, Tryz.underlying28, rfl⟩, by kernel_rfl⟩
theorem fl_82_2 : Fld Tryz.prog 82 2 2 := ⟨_, _, 0, Tryz.underlying82, rfl, rfl, by kernel_rfl⟩
theorem ag_74 : TyAgg Tryz.prog 74 3 := ⟨⟨_, Tryz.underlying74, rfl⟩, by kernel_rfl⟩
theorem ca_56 : Callable Tryz.prog 56 := ⟨_, _, Tryz.func56, rfl, rfl⟩
theorem bs_80_0   (w : World) : (Instr.buildSlice 80 0 #[]).run Tryz.prog w = .ok (.slice (some ⟨w.heap.size, 0, none⟩) 0 0) { w with heap := w.heap.push (.cells #[] 82 (0, 0)) } :=
 Go.Eng.run_buildSlice Tryz.underlying80 sz_82 ze_82 (by decide) (by rw [show Array.range (0 * 3) = #[] from by decide]; simp [Instr.fill, cells_agg]) w
theorem el_80_eSrc : TyEl Tryz.prog 80 eSrc 24 := ⟨Tryz.underlying80, .agg #[.pointer none, .int .i64 0, .int .i64 0], by kernel_rfl, rfl⟩
theorem ze_163 : (Tryz.prog.info? 163).map (·.zero) = some (some (.agg #[.slice none 0 0, .string ⟨#[]⟩, .string ⟨#[]⟩, .int .i64 0, .pointer none, .int .i64 0, .int .i64 0, .string ⟨#[]⟩, .bool false, .string ⟨#[]⟩, .int .u64 0, .int .i64 0, .bool false])) := by kernel_rfl
theorem bu_163_0_1_2_3 (v0 : Value) (v1_0 v1_1 v1_2 : Value) (v2 : Value) (v3 : Value) (h0 : v0.cells = #[v0]) (h2 : v2.cells = #[v2]) (h3 : v3.cells = #[v3]) (w : World) : (Instr.build 163 #[(0, v0), (1, .agg #[v1_0, v1_1, v1_2]), (2, v2), (3, v3)]).run Tryz.prog w = .ok (.agg #[v0, v1_0, v1_1, v1_2, v2, v3, .int .i64 0, .string ⟨#[]⟩, .bool false, .string ⟨#[]⟩, .int .u64 0, .int .i64 0, .bool false]) w := by
 have hz := @ze_163
 exact Go.Eng.run_build (pl := [(0, 1), (1, 3), (4, 1), (5, 1), (6, 5), (11, 1), (12, 1)]) hz Tryz.underlying163 (by kernel_rfl) rfl (by simp [Instr.fill, h0, h2, h3, cells_agg]) w
theorem ep_76 : Tryz.prog.underlying 76 = some (.pointer (Tryz.prog.pointee 76)) := by kernel_rfl
theorem fl_163_5 : Fld Tryz.prog 163 5 11 := ⟨_, _, 0, Tryz.underlying163, rfl, rfl, by kernel_rfl⟩
theorem fl_163_1 : Fld Tryz.prog 163 1 1 := ⟨_, _, 2, Tryz.underlying163, rfl, rfl, by kernel_rfl⟩
theorem fl_163_4 : Fld Tryz.prog 163 4 6 := ⟨_, _, 4, Tryz.underlying163, rfl, rfl, by kernel_rfl⟩
theorem fl_158_1 : Fld Tryz.prog 158 1 1 := ⟨_, _, 0, Tryz.underlying158, rfl, rfl, by kernel_rfl⟩
theorem fl_158_0 : Fld Tryz.prog 158 0 0 := ⟨_, _, 0, Tryz.underlying158, rfl, rfl, by kernel_rfl⟩
theorem ze_45 : (Tryz.prog.info? 45).map (·.zero) = some (some (.agg #[.bool false, .string ⟨#[]⟩, .int .u64 0])) := by kernel_rfl
theorem fl_82_1 : Fld Tryz.prog 82 1 1 := ⟨_, _, 0, Tryz.underlying82, rfl, rfl, by kernel_rfl⟩
theorem ca_20 : Callable Tryz.prog 20 := ⟨_, _, Tryz.func20, rfl, rfl⟩
theorem sz_45 : (Tryz.prog.info? 45).map (·.size) = some 3 := by kernel_rfl
theorem ag_45 : TyAgg Tryz.prog 45 3 := ⟨⟨_, Tryz.underlying45, rfl⟩, by kernel_rfl⟩
theorem ca_99 : Callable Tryz.prog 99 := ⟨_, _, Tryz.func99, rfl, rfl⟩
theorem fl_163_2 : Fld Tryz.prog 163 2 4 := ⟨_, _, 0, Tryz.underlying163, rfl, rfl, by kernel_rfl⟩
theorem one_94 : TyOne Tryz.prog 94 := ⟨⟨_, Tryz.underlying94, rfl⟩, by kernel_rfl⟩
theorem ca_202 : Callable Tryz.prog 202 := ⟨_, _, Tryz.func202, rfl, rfl⟩
theorem ze_97 : (Tryz.prog.info? 97).map (·.zero) = some (some (.agg #[.string ⟨#[]⟩, .bool false, .bool false, .string ⟨#[]⟩, .int .u64 0])) := by kernel_rfl
theorem sz_97 : (Tryz.prog.info? 97).map (·.size) = some 5 := by kernel_rfl
theorem ca_203 : Callable Tryz.prog 203 := ⟨_, _, Tryz.func203, rfl, rfl⟩
theorem fl_97_0 : Fld Tryz.prog 97 0 0 := ⟨_, _, 0, Tryz.underlying97, rfl, rfl, by kernel_rfl⟩
theorem fl_97_2 : Fld Tryz.prog 97 2 2 := ⟨_, _, 2, Tryz.underlying97, rfl, rfl, by kernel_rfl⟩
theorem fl_97_1 : Fld Tryz.prog 97 1 1 := ⟨_, _, 0, Tryz.underlying97, rfl, rfl, by kernel_rfl⟩
theorem one_4 : TyOne Tryz.prog 4 := ⟨⟨_, Tryz.underlying4, rfl⟩, by kernel_rfl⟩
theorem one_250 : TyOne Tryz.prog 250 := ⟨⟨_, Tryz.underlying250, rfl⟩, by kernel_rfl⟩
theorem ca_178 : Callable Tryz.prog 178 := ⟨_, _, Tryz.func178, rfl, rfl⟩
theorem ca_176 : Callable Tryz.prog 176 := ⟨_, _, Tryz.func176, rfl, rfl⟩
end FMerge1
open FMerge1
def riseStep (xs : List SrcV) (i : Nat) (rs : Bool) (h : i < xs.length) : Bool := rs && (decide (0 ≤ xs[i].place) && prevLt (lastP xs i) xs[i].place)
theorem riseStep_ok {xs : List SrcV} {i : Nat} {rs : Bool} (h : i < xs.length) (hr : riseFrom none xs = (rs && riseFrom (lastP xs i) (xs.drop i))) : riseFrom none xs = (riseStep xs i rs h && riseFrom (lastP xs (i + 1)) (xs.drop (i + 1))) := by
 rw [hr, List.drop_eq_getElem_cons h, lastP_succ h]
 simp only [riseFrom, riseStep, Bool.and_assoc]
theorem or_step {a b : Int} {i : Nat} (h : i < 2) (ha : 1 ≤ i → a = 0) (hc : [a, b][i]'(by simp; omega) = 0) : (1 ≤ i + 1 → a = 0) ∧ (2 ≤ i + 1 → b = 0) := by
 have h2 : i = 0 ∨ i = 1 := by omega
 rcases h2 with rfl | rfl
 ·exact ⟨fun _ => hc, fun h => by omega⟩
 ·exact ⟨fun _ => ha (by omega), fun _ => hc⟩
theorem cmpStr0 (a b : ByteArray) : Does Tryz.prog 179 [.string a, .string b] [] (fun v l => v = .int .i64 (cmpS a b) ∧ l = []) := by
 refine spec_of Tryz.func179 rfl Tryz.ntmps179 Tryz.results179 _ (by simp) fun ι F => ?_
 refine vc_seq ?_
 refine vc_region ?_
 refine vp ?_
 refine vc_nil ?_
 refine vc_then ?_
 refine vc_seq ?_
 refine vc_region ?_
 refine vp ?_
 refine vp ?_
 refine vc_y (y_ext (g := Extern.BytealgCompare.compare) Tryz.func204 rfl (by kernel_rfl) (by kernel_rfl) (by kernel_rfl) rfl [_, _] rfl (.int .i64 (cmpS a b)) (fun w => by rw [← cmpS_eq]; exact Lib.run_compareString a b w)) rfl ?_
 refine vp ?_
 refine vc_nil ?_
 refine vc_then ?_
 refine vc_ret ?_
 exact vc_end1 Tryz.results179 rfl _ (ent_pick [] rfl) ⟨rfl, rfl⟩
theorem cmpStr (a b : ByteArray) : Does Tryz.prog 144 [.string a, .string b] [] (fun v l => v = .int .i64 (cmpS a b) ∧ l = []) := by
 refine spec_of Tryz.func144 rfl Tryz.ntmps144 Tryz.results144 _ (by simp) fun ι F => ?_
 refine vc_seq ?_
 refine vc_region ?_
 refine vp ?_
 refine vc_nil ?_
 refine vc_then ?_
 refine vc_seq ?_
 refine vc_region ?_
 refine vp ?_
 refine vp ?_
 refine vc_callv ca_179 (us := []) (vs := []) rfl [_, _] rfl [] rfl (cmpStr0 _ _) rfl ?_
 rintro _ _ ⟨rfl, rfl⟩
 refine vp ?_
 refine vc_nil ?_
 refine vc_then ?_
 refine vc_ret ?_
 exact vc_end1 Tryz.results144 rfl _ (ent_pick [] rfl) ⟨rfl, rfl⟩
theorem isNaNi_spec (a : Int) : Does Tryz.prog 180 [.int .i64 a] [] (fun v l => v = .bool false ∧ l = []) := by
 refine spec_of Tryz.func180 rfl Tryz.ntmps180 Tryz.results180 _ (by simp) fun ι F => ?_
 refine vc_seq ?_
 refine vc_region ?_
 refine vp ?_
 refine vc_nil ?_
 refine vc_then ?_
 refine vc_seq ?_
 refine vc_region ?_
 iterate 4 refine vp ?_
 refine vc_nil ?_
 refine vc_then ?_
 refine vc_ret ?_
 exact vc_end1 Tryz.results180 rfl _ (ent_pick [] rfl) ⟨by simp, rfl⟩
theorem cmpInt (a b : Int) : Does Tryz.prog 145 [.int .i64 a, .int .i64 b] [] (fun v l => v = .int .i64 (if a < b then -1 else if b < a then 1 else 0) ∧ l = []) := by
 refine spec_of Tryz.func145 rfl Tryz.ntmps145 Tryz.results145 _ (by simp) fun ι F => ?_
 refine vc_seq ?_
 refine vc_region ?_
 refine vp ?_
 refine vc_nil ?_
 refine vc_then ?_
 refine vc_seq ?_
 refine vc_region ?_
 refine vp ?_
 refine vc_callv ca_180 (us := []) (vs := []) rfl [_] rfl [] rfl (isNaNi_spec _) rfl ?_
 rintro _ _ ⟨rfl, rfl⟩
 refine vp ?_
 refine vc_nil ?_
 refine vc_then ?_
 refine vc_seq ?_
 refine vc_region ?_
 refine vp ?_
 refine vc_callv ca_180 (us := []) (vs := []) rfl [_] rfl [] rfl (isNaNi_spec _) rfl ?_
 rintro _ _ ⟨rfl, rfl⟩
 refine vp ?_
 refine vc_nil ?_
 refine vc_then ?_
 refine vc_seq ?_
 refine vc_seq ?_
 refine vc_region ?_
 refine vp ?_
 refine vc_nil ?_
 refine vc_then ?_
 refine vc_condF rfl ?_
 refine vc_skip ?_
 refine vc_then ?_
 refine vc_seq ?_
 refine vc_seq ?_
 refine vc_region ?_
 refine vp ?_
 refine vc_nil ?_
 refine vc_then ?_
 refine vc_condF rfl ?_
 refine vc_skip ?_
 refine vc_then ?_
 refine vc_seq ?_
 refine vc_seq ?_
 refine vc_region ?_
 iterate 3 refine vp ?_
 refine vc_nil ?_
 refine vc_then ?_
 first | refine vc_condP rfl (fun c16 => ?_) (fun c16 => ?_) | refine vc_condN rfl (fun c16 => ?_) (fun c16 => ?_) | refine vc_cond rfl (fun c16 => ?_) (fun c16 => ?_)
 ·skip
  refine vc_seq ?_
  refine vc_region ?_
  refine vp ?_
  refine vc_nil ?_
  refine vc_then ?_
  refine vc_ret ?_
  refine vc_thenRet ?_
  exact vc_end1 Tryz.results145 rfl _ (ent_pick [] rfl) ⟨by simp [*], rfl⟩
 ·skip
  refine vc_skip ?_
  refine vc_then ?_
  refine vc_seq ?_
  refine vc_seq ?_
  refine vc_region ?_
  iterate 3 refine vp ?_
  refine vc_nil ?_
  refine vc_then ?_
  first | refine vc_condP rfl (fun c19 => ?_) (fun c19 => ?_) | refine vc_condN rfl (fun c19 => ?_) (fun c19 => ?_) | refine vc_cond rfl (fun c19 => ?_) (fun c19 => ?_)
  ·skip
   refine vc_seq ?_
   refine vc_region ?_
   refine vp ?_
   refine vc_nil ?_
   refine vc_then ?_
   refine vc_ret ?_
   refine vc_thenRet ?_
   exact vc_end1 Tryz.results145 rfl _ (ent_pick [] rfl) ⟨by simp [*], rfl⟩
  ·skip
   refine vc_skip ?_
   refine vc_then ?_
   refine vc_seq ?_
   refine vc_region ?_
   refine vp ?_
   refine vc_nil ?_
   refine vc_then ?_
   refine vc_ret ?_
   exact vc_end1 Tryz.results145 rfl _ (ent_pick [] rfl) ⟨by simp [*], rfl⟩
theorem cmpOr {A : HP} {h : SH} {a b : Int} (hv : Vis A (Rd eInt h [a, b])) : Does Tryz.prog 143 [h.v] [A] (fun v l => v = .int .i64 (if a ≠ 0 then a else b) ∧ l = [A]) := by
 refine spec_of Tryz.func143 rfl Tryz.ntmps143 Tryz.results143 _ (by simp) fun ι F => ?_
 refine vc_see 0 rfl (hv.imp fun w r => r.len) (fun hlen => ?_)
 refine vc_seq ?_
 refine vc_region ?_
 refine vp ?_
 refine vc_nil ?_
 refine vc_then ?_
 refine vc_seq ?_
 refine vc_region ?_
 refine vp ?_
 refine vc_nil ?_
 refine vc_then ?_
 refine vc_seq ?_
 refine vc_seq ?_
 refine vc_region ?_
 refine vp ?_
 refine vc_y (y_len Tryz.underlying72 rfl (by first | assumption | rfl)) rfl ?_
 refine vp ?_
 refine vc_nil ?_
 refine vc_then ?_
 refine vc_block ?_
 refine vc_loop (α := Nat) (fun xq_ => match xq_ with | i => [(0, h.v), (3, .int .i64 0), (6, h.v), (7, .int .i64 (2 : Int)), (8, .int .i64 (i : Int))]) (fun xq_ => match xq_ with | i => [A]) (fun xq_ => match xq_ with | i => 2 - i) (fun xq_ => match xq_ with | i => i ≤ 2 ∧ (1 ≤ i → a = 0) ∧ (2 ≤ i → b = 0)) 0 ⟨by omega, by omega, by omega⟩ ⟨rfl, rfl, rfl, rfl, rfl, trivial⟩ (ent_pick [0] rfl) ?_
 rintro i ⟨hi, ha, hb⟩
 show VC _ _ _ _ [(0, h.v), (3, .int .i64 0), (6, h.v), (7, .int .i64 (2 : Int)), (8, .int .i64 (i : Int))] ([A])
 refine vc_seq ?_
 refine vc_region ?_
 refine vp ?_
 refine vc_nil ?_
 refine vc_then ?_
 refine vc_seq ?_
 first | refine vc_condP rfl (fun c9 => ?_) (fun c9 => ?_) | refine vc_condN rfl (fun c9 => ?_) (fun c9 => ?_) | refine vc_cond rfl (fun c9 => ?_) (fun c9 => ?_)
 ·skip
  refine vc_skip ?_
  refine vc_then ?_
  refine vc_seq ?_
  refine vc_block ?_
  refine vc_seq ?_
  refine vc_region ?_
  refine vc_y (y_elem 0 rfl (hv) i rfl (by simp; omega) sl_72 rfl rfl) rfl ?_
  refine vc_y (y_load1 0 rfl one_3 rfl (Rd.vis1 (hv) (List.getElem?_eq_getElem (by simp; omega)) rfl)) rfl ?_
  refine vp ?_
  refine vc_nil ?_
  refine vc_then ?_
  refine vc_seq ?_
  refine vc_region ?_
  iterate 3 refine vp ?_
  refine vc_nil ?_
  refine vc_then ?_
  first | refine vc_condP rfl (fun c14 => ?_) (fun c14 => ?_) | refine vc_condN rfl (fun c14 => ?_) (fun c14 => ?_) | refine vc_cond rfl (fun c14 => ?_) (fun c14 => ?_)
  ·skip
   refine vc_seq ?_
   refine vc_region ?_
   refine vp ?_
   refine vp ?_
   refine vc_nil ?_
   refine vc_then ?_
   refine vc_ret ?_
   refine vc_inRet ?_
   refine vc_thenRet ?_
   refine vc_thenRet ?_
   refine vc_inRet ?_
   refine vc_thenRet ?_
   exact vc_end1 Tryz.results143 rfl _ (ent_pick [0] rfl) ⟨by
    have h2 : i = 0 ∨ i = 1 := by omega
    rcases h2 with rfl | rfl
    ·have h3 : a ≠ 0 := by simpa using c14
     simp [h3]
    ·have h3 := ha (by omega)
     simp [h3], rfl⟩
  ·skip
   refine vc_skip ?_
   refine vc_inNormal ?_
   refine vc_then ?_
   refine vc_region ?_
   first | refine vc_y (y_arith _ rfl (wrapNadd (by omega))) rfl ?_ | refine vc_y (y_arith _ rfl (wrap64 (by omega) (by omega))) rfl ?_ | refine vp ?_
   refine vp ?_
   refine vc_nil ?_
   refine vc_then ?_
   exact vc_again (x := i) (i + 1) ⟨by omega, or_step (by omega) ha c14⟩ (by show 2 - (i + 1) < 2 - i; omega) ⟨rfl, rfl, rfl, rfl, rfl, trivial⟩ (ent_pick [0] rfl)
 ·skip
  obtain rfl : i = 2 := by omega
  refine vc_exit ?_
  refine vc_thenExit ?_
  refine vc_thenExit ?_
  refine vc_inExit ?_
  refine vc_then ?_
  refine vc_seq ?_
  refine vc_region ?_
  refine vp ?_
  refine vp ?_
  refine vc_nil ?_
  refine vc_then ?_
  refine vc_ret ?_
  exact vc_end1 Tryz.results143 rfl _ (ent_pick [0] rfl) ⟨by rw [if_neg (by rw [ha (by omega)]; simp), hb (by omega)], rfl⟩
theorem mright_spec (frm to : ByteArray) (limit : Int) : Does Tryz.prog 56 [.agg #[.string frm, .string to, .int .i64 limit]] [] (fun v l => v = .bool (rangeRight frm to limit) ∧ l = []) := by
 refine spec_of Tryz.func56 rfl Tryz.ntmps56 Tryz.results56 _ (by simp) fun ι F => ?_
 refine vc_seq ?_
 refine vc_region ?_
 refine vc_box [_, _, _] rfl rfl rfl (fun b1 => ?_)
 refine vp ?_
 refine vc_nil ?_
 refine vc_then ?_
 refine vc_seq ?_
 refine vc_region ?_
 refine vc_y (y_fieldP fl_74_2 2 rfl rfl) rfl ?_
 refine vc_y (y_load1 0 rfl one_3 rfl (Pts.vis rfl)) rfl ?_
 refine vp ?_
 refine vp ?_
 first | refine vc_splitP 6 rfl (fun c6 => ?_) (fun c6 => ?_) | refine vc_splitN 6 rfl (fun c6 => ?_) (fun c6 => ?_) | refine vc_split 6 rfl (fun c6 => ?_) (fun c6 => ?_)
 ·skip
  refine vc_guardT 6 rfl rfl ?_
  refine vc_y (y_fieldP fl_74_2 2 rfl rfl) rfl ?_
  refine vc_guardT 6 rfl rfl ?_
  refine vc_y (y_load1 0 rfl one_3 rfl (Pts.vis rfl)) rfl ?_
  refine vc_guardT 6 rfl rfl ?_
  iterate 3 refine vp ?_
  first | refine vc_splitP 11 rfl (fun c11 => ?_) (fun c11 => ?_) | refine vc_splitN 11 rfl (fun c11 => ?_) (fun c11 => ?_) | refine vc_split 11 rfl (fun c11 => ?_) (fun c11 => ?_)
  ·skip
   refine vc_guardT 11 rfl rfl ?_
   refine vc_y (y_fieldP fl_74_1 1 rfl rfl) rfl ?_
   refine vc_guardT 11 rfl rfl ?_
   refine vc_y (y_load1 0 rfl one_9 rfl (Pts.vis rfl)) rfl ?_
   refine vc_guardT 11 rfl rfl ?_
   refine vp ?_
   refine vc_guardT 11 rfl rfl ?_
   refine vp ?_
   first | refine vc_splitP 15 rfl (fun c15 => ?_) (fun c15 => ?_) | refine vc_splitN 15 rfl (fun c15 => ?_) (fun c15 => ?_) | refine vc_split 15 rfl (fun c15 => ?_) (fun c15 => ?_)
   ·skip
    refine vc_guardF 15 rfl rfl rfl rfl ?_
    refine vc_guardF 15 rfl rfl rfl rfl ?_
    refine vc_guardF 15 rfl rfl rfl rfl ?_
    refine vc_guardF 15 rfl rfl rfl rfl ?_
    refine vc_guardF 15 rfl rfl rfl rfl ?_
    refine vc_guardT 11 rfl rfl ?_
    iterate 3 refine vp ?_
    refine vc_nil ?_
    refine vc_then ?_
    refine vc_ret ?_
    exact vc_end1 Tryz.results56 rfl _ (ent_pick [] rfl) ⟨by simp [rangeRight, *], rfl⟩
   ·skip
    refine vc_guardT 15 rfl rfl ?_
    refine vc_y (y_fieldP fl_74_1 1 rfl rfl) rfl ?_
    refine vc_guardT 15 rfl rfl ?_
    refine vc_y (y_load1 0 rfl one_9 rfl (Pts.vis rfl)) rfl ?_
    refine vc_guardT 15 rfl rfl ?_
    refine vc_y (y_fieldP fl_74_0 0 rfl rfl) rfl ?_
    refine vc_guardT 15 rfl rfl ?_
    refine vc_y (y_load1 0 rfl one_9 rfl (Pts.vis rfl)) rfl ?_
    refine vc_guardT 15 rfl rfl ?_
    refine vp ?_
    refine vc_guardT 11 rfl rfl ?_
    iterate 3 refine vp ?_
    refine vc_nil ?_
    refine vc_then ?_
    refine vc_ret ?_
    exact vc_end1 Tryz.results56 rfl _ (ent_pick [] rfl) ⟨by simp [rangeRight, *], rfl⟩
  ·skip
   refine vc_guardF 11 rfl rfl rfl rfl ?_
   refine vc_guardF 11 rfl rfl rfl rfl ?_
   refine vc_guardF 11 rfl rfl rfl rfl ?_
   refine vc_guardF 11 rfl rfl rfl rfl ?_
   refine vc_guardU 15 rfl rfl rfl ?_
   refine vc_guardU 15 rfl rfl rfl ?_
   refine vc_guardU 15 rfl rfl rfl ?_
   refine vc_guardU 15 rfl rfl rfl ?_
   refine vc_guardU 15 rfl rfl rfl ?_
   refine vc_guardF 11 rfl rfl rfl rfl ?_
   refine vp ?_
   refine vp ?_
   refine vc_nil ?_
   refine vc_then ?_
   refine vc_ret ?_
   exact vc_end1 Tryz.results56 rfl _ (ent_pick [] rfl) ⟨by simp [rangeRight, *], rfl⟩
 ·skip
  refine vc_guardF 6 rfl rfl rfl rfl ?_
  refine vc_guardF 6 rfl rfl rfl rfl ?_
  refine vc_guardF 6 rfl rfl rfl rfl ?_
  refine vp ?_
  refine vp ?_
  refine vc_guardF 11 rfl rfl rfl rfl ?_
  refine vc_guardF 11 rfl rfl rfl rfl ?_
  refine vc_guardF 11 rfl rfl rfl rfl ?_
  refine vc_guardF 11 rfl rfl rfl rfl ?_
  refine vc_guardU 15 rfl rfl rfl ?_
  refine vc_guardU 15 rfl rfl rfl ?_
  refine vc_guardU 15 rfl rfl rfl ?_
  refine vc_guardU 15 rfl rfl rfl ?_
  refine vc_guardU 15 rfl rfl rfl ?_
  refine vc_guardF 11 rfl rfl rfl rfl ?_
  refine vp ?_
  refine vp ?_
  refine vc_nil ?_
  refine vc_then ?_
  refine vc_ret ?_
  exact vc_end1 Tryz.results56 rfl _ (ent_pick [] rfl) ⟨by simp [rangeRight, *], rfl⟩
theorem mopen_nil {A : HP} {h : SH} {xs : List SrcV} (hv : Vis A (Rd eSrc h xs)) (hb : xs.length ≤ 1000000) (frm to : ByteArray) (limit : Int) (own : Option Nat) (place : Int) (hn : ∃ s ∈ xs, isNilS s = true) : Does Tryz.prog 44 [h.v, .agg #[.string frm, .string to, .int .i64 limit], ptrV own, .int .i64 place] [A] (fun v l => v = .tuple #[.pointer none, .int .i64 2] ∧ l = [A]) := by
 refine spec_of Tryz.func44 rfl Tryz.ntmps44 Tryz.results44 _ (by simp) fun ι F => ?_
 refine vc_see 0 rfl (hv.imp fun w r => r.len) (fun hlen => ?_)
 refine vc_seq ?_
 refine vc_region ?_
 refine vc_box [_, _, _] rfl rfl rfl (fun b5 => ?_)
 refine vp ?_
 refine vp ?_
 refine vc_nil ?_
 refine vc_then ?_
 refine vc_seq ?_
 refine vc_region ?_
 refine vp ?_
 refine vc_nil ?_
 refine vc_then ?_
 refine vc_seq ?_
 refine vc_seq ?_
 refine vc_region ?_
 refine vp ?_
 refine vc_y (y_len Tryz.underlying80 rfl (by first | assumption | rfl)) rfl ?_
 refine vp ?_
 refine vc_nil ?_
 refine vc_then ?_
 refine vc_block ?_
 refine vc_loop (α := Nat × Bool) (fun xq_ => match xq_ with | (i, rs) => [(0, h.v), (2, ptrV own), (3, .int .i64 place), (5, .pointer (some ⟨b5, 0, none⟩)), (10, .bool rs), (13, h.v), (14, .int .i64 (xs.length : Int)), (15, .int .i64 (i : Int))]) (fun xq_ => match xq_ with | (i, rs) => [Pts b5 [.string frm, .string to, .int .i64 limit] 74, A]) (fun xq_ => match xq_ with | (i, rs) => xs.length - i) (fun xq_ => match xq_ with | (i, rs) => i ≤ xs.length ∧ (∀ s ∈ xs.take i, isNilS s = false) ∧ riseFrom none xs = (rs && riseFrom (lastP xs i) (xs.drop i))) (0, true) ⟨Nat.zero_le _, by simp, rfl⟩ ⟨rfl, rfl, rfl, rfl, rfl, rfl, rfl, rfl, trivial⟩ (ent_pick [0, 0] rfl) ?_
 rintro ⟨i, rs⟩ ⟨hi, hnl, hrs⟩
 show VC _ _ _ _ [(0, h.v), (2, ptrV own), (3, .int .i64 place), (5, .pointer (some ⟨b5, 0, none⟩)), (10, .bool rs), (13, h.v), (14, .int .i64 (xs.length : Int)), (15, .int .i64 (i : Int))] ([Pts b5 [.string frm, .string to, .int .i64 limit] 74, A])
 refine vc_seq ?_
 refine vc_region ?_
 refine vp ?_
 refine vc_nil ?_
 refine vc_then ?_
 refine vc_seq ?_
 first | refine vc_condP rfl (fun c16 => ?_) (fun c16 => ?_) | refine vc_condN rfl (fun c16 => ?_) (fun c16 => ?_) | refine vc_cond rfl (fun c16 => ?_) (fun c16 => ?_)
 ·skip
  have hi2 : i < xs.length := by omega
  refine vc_skip ?_
  refine vc_then ?_
  refine vc_seq ?_
  refine vc_block ?_
  refine vc_seq ?_
  refine vc_region ?_
  refine vp ?_
  refine vc_y (y_elem 1 rfl (hv) i rfl hi2 sl_80 rfl rfl) rfl ?_
  refine vc_y (y_loadA 1 rfl (cs := [_, _, _]) ag_82 rfl (Rd.visA (hv) (List.getElem?_eq_getElem (by first | assumption | omega)) rfl)) rfl ?_
  refine vc_alloc [.pointer none, .int .i64 0, .int .i64 0] ze_82 rfl rfl (fun b12 => ?_)
  refine vp ?_
  refine vc_storeP 0 rfl [_, _, _] [_, _, _] rfl rfl rfl sz_82 rfl rfl rfl ?_
  refine vc_nil ?_
  refine vc_then ?_
  refine vc_seq ?_
  refine vc_seq ?_
  refine vc_region ?_
  refine vc_y (y_fieldP fl_82_0 0 rfl rfl) rfl ?_
  refine vc_y (y_load1 0 rfl one_28 rfl (Pts.vis rfl)) rfl ?_
  refine vc_y (y_eqNil ep_28 rfl rfl) rfl ?_
  refine vc_nil ?_
  refine vc_then ?_
  first | refine vc_condP rfl (fun c22 => ?_) (fun c22 => ?_) | refine vc_condN rfl (fun c22 => ?_) (fun c22 => ?_) | refine vc_cond rfl (fun c22 => ?_) (fun c22 => ?_)
  ·skip
   have hns : isNilS xs[i] = true := by
    have h0 := c22
    unfold isNilS
    cases hr : xs[i].room with
    | none => rfl
    | some r => rw [hr] at h0; cases h0
   refine vc_seq ?_
   refine vc_region ?_
   refine vp ?_
   refine vp ?_
   refine vc_nil ?_
   refine vc_then ?_
   refine vc_ret ?_
   refine vc_thenRet ?_
   refine vc_inRet ?_
   refine vc_thenRet ?_
   refine vc_thenRet ?_
   refine vc_inRet ?_
   refine vc_thenRet ?_
   exact vc_end2 Tryz.results44 rfl rfl _ (ent_pick [2] rfl) ⟨rfl, rfl⟩
  ·skip
   have hns : isNilS xs[i] = false := by
    have h0 := c22
    unfold isNilS
    cases hr : xs[i].room with
    | none => rw [hr] at h0; cases h0
    | some r => rfl
   refine vc_skip ?_
   refine vc_then ?_
   refine vc_draw (by kernel_rfl) _ none [2, 0] rfl ?_
   refine tpp 0 ?_
   refine tpp 1 ?_
   first | refine va_splitP 24 rfl (fun c24 => ?_) (fun c24 => ?_) | refine va_splitN 24 rfl (fun c24 => ?_) (fun c24 => ?_) | refine va_split 24 rfl (fun c24 => ?_) (fun c24 => ?_)
   ·skip
    refine tg 2 24 rfl (by exact y_fieldP fl_82_2 2 rfl rfl) ?_
    refine tkg 3 24 rfl (by exact y_load1 1 rfl one_3 rfl (Pts.vis rfl)) ?_
    refine tgp 4 24 ?_
    refine tpp 5 ?_
    refine tpp 6 ?_
    first | refine va_splitP 29 rfl (fun c29 => ?_) (fun c29 => ?_) | refine va_splitN 29 rfl (fun c29 => ?_) (fun c29 => ?_) | refine va_split 29 rfl (fun c29 => ?_) (fun c29 => ?_)
    ·skip
     refine tgp 7 29 ?_
     refine tgp 8 29 ?_
     refine tgp 9 29 ?_
     first | refine va_splitP 32 rfl (fun c32 => ?_) (fun c32 => ?_) | refine va_splitN 32 rfl (fun c32 => ?_) (fun c32 => ?_) | refine va_split 32 rfl (fun c32 => ?_) (fun c32 => ?_)
     ·skip
      have hls : lastP xs i = none := by
       obtain rfl : i = 0 := by omega
       rfl
      refine sk 10 32 ?_
      refine sk 11 32 ?_
      refine sk 12 32 ?_
      refine sk 13 32 ?_
      refine sk 14 32 ?_
      refine sk 15 32 ?_
      refine sk 16 32 ?_
      refine sk 17 32 ?_
      refine sk 18 32 ?_
      refine tgp 19 29 ?_
      refine tpp 20 ?_
      refine tpp 21 ?_
      refine va_done (by kernel_rfl) ?_
      refine vc_inNormal ?_
      refine vc_then ?_
      refine vc_region ?_
      refine vc_keep [(0, h.v), (2, ptrV own), (3, .int .i64 place), (5, .pointer (some ⟨b5, 0, none⟩)), (10, .bool (riseStep xs i rs hi2)), (13, h.v), (14, .int .i64 (xs.length : Int)), (15, .int .i64 (i : Int))] ⟨rfl, rfl, rfl, rfl, by first | (simp only [riseStep, c24]; rfl) | (simp only [riseStep, c24, c29, hls, prevLt]; rfl) | (simp only [riseStep, c24, decide_eq_false c29]; rfl) | (simp only [riseStep, c24, c29, hls, prevLt]; simp [*]), rfl, rfl, rfl, trivial⟩ ?_
      first | refine vc_y (y_arith _ rfl (wrapNadd (by omega))) rfl ?_ | refine vc_y (y_arith _ rfl (wrap64 (by omega) (by omega))) rfl ?_ | refine vp ?_
      refine vp ?_
      refine vc_nil ?_
      refine vc_then ?_
      exact vc_again (x := (i, rs)) (i + 1, riseStep xs i rs hi2) ⟨hi2, any_take_succ hi2 hnl hns, riseStep_ok hi2 hrs⟩ (by show xs.length - (i + 1) < xs.length - i; omega) ⟨rfl, rfl, rfl, rfl, rfl, rfl, rfl, rfl, trivial⟩ (ent_pick [1, 1] rfl)
     ·skip
      have hls := lastP_pos (l := xs) (i := i) (by omega) (by omega)
      refine tgp 10 32 ?_
      refine tgp 11 32 ?_
      first | refine tg 12 32 rfl (by exact y_arith _ rfl (wrapNsub (by omega))) ?_ | refine tg 12 32 rfl (by exact y_arith _ rfl (wrap64 (by omega) (by omega))) ?_ | refine tgp 12 32 ?_
      refine tkg 13 32 rfl (by exact y_elem 0 rfl (hv) (i - 1) rfl (by omega) sl_80 rfl rfl) ?_
      refine tg 14 32 rfl (by exact y_fieldE fl_82_2 2 rfl rfl) ?_
      refine tkg 15 32 rfl (by exact y_load1 0 rfl one_3 rfl (Rd.vis1 (hv) (List.getElem?_eq_getElem (by first | assumption | omega)) rfl)) ?_
      refine tg 16 32 rfl (by exact y_fieldP fl_82_2 2 rfl rfl) ?_
      refine tkg 17 32 rfl (by exact y_load1 1 rfl one_3 rfl (Pts.vis rfl)) ?_
      refine tgp 18 32 ?_
      refine tgp 19 29 ?_
      refine tpp 20 ?_
      refine tpp 21 ?_
      refine va_done (by kernel_rfl) ?_
      refine vc_inNormal ?_
      refine vc_then ?_
      refine vc_region ?_
      refine vc_keep [(0, h.v), (2, ptrV own), (3, .int .i64 place), (5, .pointer (some ⟨b5, 0, none⟩)), (10, .bool (riseStep xs i rs hi2)), (13, h.v), (14, .int .i64 (xs.length : Int)), (15, .int .i64 (i : Int))] ⟨rfl, rfl, rfl, rfl, by first | (simp only [riseStep, c24]; rfl) | (simp only [riseStep, c24, c29, hls, prevLt]; rfl) | (simp only [riseStep, c24, decide_eq_false c29]; rfl) | (simp only [riseStep, c24, c29, hls, prevLt]; simp [*]), rfl, rfl, rfl, trivial⟩ ?_
      first | refine vc_y (y_arith _ rfl (wrapNadd (by omega))) rfl ?_ | refine vc_y (y_arith _ rfl (wrap64 (by omega) (by omega))) rfl ?_ | refine vp ?_
      refine vp ?_
      refine vc_nil ?_
      refine vc_then ?_
      exact vc_again (x := (i, rs)) (i + 1, riseStep xs i rs hi2) ⟨hi2, any_take_succ hi2 hnl hns, riseStep_ok hi2 hrs⟩ (by show xs.length - (i + 1) < xs.length - i; omega) ⟨rfl, rfl, rfl, rfl, rfl, rfl, rfl, rfl, trivial⟩ (ent_pick [1, 1] rfl)
    ·skip
     refine sk 7 29 ?_
     refine sk 8 29 ?_
     refine sk 9 29 ?_
     refine sku 10 32 ?_
     refine sku 11 32 ?_
     refine sku 12 32 ?_
     refine sku 13 32 ?_
     refine sku 14 32 ?_
     refine sku 15 32 ?_
     refine sku 16 32 ?_
     refine sku 17 32 ?_
     refine sku 18 32 ?_
     refine sk 19 29 ?_
     refine tpp 20 ?_
     refine tpp 21 ?_
     refine va_done (by kernel_rfl) ?_
     refine vc_inNormal ?_
     refine vc_then ?_
     refine vc_region ?_
     refine vc_keep [(0, h.v), (2, ptrV own), (3, .int .i64 place), (5, .pointer (some ⟨b5, 0, none⟩)), (10, .bool (riseStep xs i rs hi2)), (13, h.v), (14, .int .i64 (xs.length : Int)), (15, .int .i64 (i : Int))] ⟨rfl, rfl, rfl, rfl, by first | (simp only [riseStep, c24]; rfl) | (simp only [riseStep, c24, c29, hls, prevLt]; rfl) | (simp only [riseStep, c24, decide_eq_false c29]; rfl) | (simp only [riseStep, c24, c29, hls, prevLt]; simp [*]), rfl, rfl, rfl, trivial⟩ ?_
     first | refine vc_y (y_arith _ rfl (wrapNadd (by omega))) rfl ?_ | refine vc_y (y_arith _ rfl (wrap64 (by omega) (by omega))) rfl ?_ | refine vp ?_
     refine vp ?_
     refine vc_nil ?_
     refine vc_then ?_
     exact vc_again (x := (i, rs)) (i + 1, riseStep xs i rs hi2) ⟨hi2, any_take_succ hi2 hnl hns, riseStep_ok hi2 hrs⟩ (by show xs.length - (i + 1) < xs.length - i; omega) ⟨rfl, rfl, rfl, rfl, rfl, rfl, rfl, rfl, trivial⟩ (ent_pick [1, 1] rfl)
   ·skip
    refine sk 2 24 ?_
    refine sk 3 24 ?_
    refine sk 4 24 ?_
    refine tpp 5 ?_
    refine tpp 6 ?_
    refine sk 7 29 ?_
    refine sk 8 29 ?_
    refine sk 9 29 ?_
    refine sku 10 32 ?_
    refine sku 11 32 ?_
    refine sku 12 32 ?_
    refine sku 13 32 ?_
    refine sku 14 32 ?_
    refine sku 15 32 ?_
    refine sku 16 32 ?_
    refine sku 17 32 ?_
    refine sku 18 32 ?_
    refine sk 19 29 ?_
    refine tpp 20 ?_
    refine tpp 21 ?_
    refine va_done (by kernel_rfl) ?_
    refine vc_inNormal ?_
    refine vc_then ?_
    refine vc_region ?_
    refine vc_keep [(0, h.v), (2, ptrV own), (3, .int .i64 place), (5, .pointer (some ⟨b5, 0, none⟩)), (10, .bool (riseStep xs i rs hi2)), (13, h.v), (14, .int .i64 (xs.length : Int)), (15, .int .i64 (i : Int))] ⟨rfl, rfl, rfl, rfl, by first | (simp only [riseStep, c24]; rfl) | (simp only [riseStep, c24, c29, hls, prevLt]; rfl) | (simp only [riseStep, c24, decide_eq_false c29]; rfl) | (simp only [riseStep, c24, c29, hls, prevLt]; simp [*]), rfl, rfl, rfl, trivial⟩ ?_
    first | refine vc_y (y_arith _ rfl (wrapNadd (by omega))) rfl ?_ | refine vc_y (y_arith _ rfl (wrap64 (by omega) (by omega))) rfl ?_ | refine vp ?_
    refine vp ?_
    refine vc_nil ?_
    refine vc_then ?_
    exact vc_again (x := (i, rs)) (i + 1, riseStep xs i rs hi2) ⟨hi2, any_take_succ hi2 hnl hns, riseStep_ok hi2 hrs⟩ (by show xs.length - (i + 1) < xs.length - i; omega) ⟨rfl, rfl, rfl, rfl, rfl, rfl, rfl, rfl, trivial⟩ (ent_pick [1, 1] rfl)
 ·skip
  obtain rfl : i = xs.length := by omega
  rw [List.take_length] at hnl
  obtain ⟨s, hs, hs2⟩ := hn
  rw [hnl s hs] at hs2
  cases hs2
  skip
theorem mopen_arg {A : HP} {h : SH} {xs : List SrcV} (hv : Vis A (Rd eSrc h xs)) (hb : xs.length ≤ 1000000) (frm to : ByteArray) (limit : Int) (own : Option Nat) (place : Int) (hn : ∀ s ∈ xs, isNilS s = false) (hr : (riseFrom none xs && rangeRight frm to limit) = false) : Does Tryz.prog 44 [h.v, .agg #[.string frm, .string to, .int .i64 limit], ptrV own, .int .i64 place] [A] (fun v l => v = .tuple #[.pointer none, .int .i64 1] ∧ l = [A]) := by
 refine spec_of Tryz.func44 rfl Tryz.ntmps44 Tryz.results44 _ (by simp) fun ι F => ?_
 refine vc_see 0 rfl (hv.imp fun w r => r.len) (fun hlen => ?_)
 refine vc_seq ?_
 refine vc_region ?_
 refine vc_box [_, _, _] rfl rfl rfl (fun b5 => ?_)
 refine vp ?_
 refine vp ?_
 refine vc_nil ?_
 refine vc_then ?_
 refine vc_seq ?_
 refine vc_region ?_
 refine vp ?_
 refine vc_nil ?_
 refine vc_then ?_
 refine vc_seq ?_
 refine vc_seq ?_
 refine vc_region ?_
 refine vp ?_
 refine vc_y (y_len Tryz.underlying80 rfl (by first | assumption | rfl)) rfl ?_
 refine vp ?_
 refine vc_nil ?_
 refine vc_then ?_
 refine vc_block ?_
 refine vc_loop (α := Nat × Bool) (fun xq_ => match xq_ with | (i, rs) => [(0, h.v), (2, ptrV own), (3, .int .i64 place), (5, .pointer (some ⟨b5, 0, none⟩)), (10, .bool rs), (13, h.v), (14, .int .i64 (xs.length : Int)), (15, .int .i64 (i : Int))]) (fun xq_ => match xq_ with | (i, rs) => [Pts b5 [.string frm, .string to, .int .i64 limit] 74, A]) (fun xq_ => match xq_ with | (i, rs) => xs.length - i) (fun xq_ => match xq_ with | (i, rs) => i ≤ xs.length ∧ (∀ s ∈ xs.take i, isNilS s = false) ∧ riseFrom none xs = (rs && riseFrom (lastP xs i) (xs.drop i))) (0, true) ⟨Nat.zero_le _, by simp, rfl⟩ ⟨rfl, rfl, rfl, rfl, rfl, rfl, rfl, rfl, trivial⟩ (ent_pick [0, 0] rfl) ?_
 rintro ⟨i, rs⟩ ⟨hi, hnl, hrs⟩
 show VC _ _ _ _ [(0, h.v), (2, ptrV own), (3, .int .i64 place), (5, .pointer (some ⟨b5, 0, none⟩)), (10, .bool rs), (13, h.v), (14, .int .i64 (xs.length : Int)), (15, .int .i64 (i : Int))] ([Pts b5 [.string frm, .string to, .int .i64 limit] 74, A])
 refine vc_seq ?_
 refine vc_region ?_
 refine vp ?_
 refine vc_nil ?_
 refine vc_then ?_
 refine vc_seq ?_
 first | refine vc_condP rfl (fun c16 => ?_) (fun c16 => ?_) | refine vc_condN rfl (fun c16 => ?_) (fun c16 => ?_) | refine vc_cond rfl (fun c16 => ?_) (fun c16 => ?_)
 ·skip
  have hi2 : i < xs.length := by omega
  refine vc_skip ?_
  refine vc_then ?_
  refine vc_seq ?_
  refine vc_block ?_
  refine vc_seq ?_
  refine vc_region ?_
  refine vp ?_
  refine vc_y (y_elem 1 rfl (hv) i rfl hi2 sl_80 rfl rfl) rfl ?_
  refine vc_y (y_loadA 1 rfl (cs := [_, _, _]) ag_82 rfl (Rd.visA (hv) (List.getElem?_eq_getElem (by first | assumption | omega)) rfl)) rfl ?_
  refine vc_alloc [.pointer none, .int .i64 0, .int .i64 0] ze_82 rfl rfl (fun b12 => ?_)
  refine vp ?_
  refine vc_storeP 0 rfl [_, _, _] [_, _, _] rfl rfl rfl sz_82 rfl rfl rfl ?_
  refine vc_nil ?_
  refine vc_then ?_
  refine vc_seq ?_
  refine vc_seq ?_
  refine vc_region ?_
  refine vc_y (y_fieldP fl_82_0 0 rfl rfl) rfl ?_
  refine vc_y (y_load1 0 rfl one_28 rfl (Pts.vis rfl)) rfl ?_
  refine vc_y (y_eqNil ep_28 rfl rfl) rfl ?_
  refine vc_nil ?_
  refine vc_then ?_
  first | refine vc_condP rfl (fun c22 => ?_) (fun c22 => ?_) | refine vc_condN rfl (fun c22 => ?_) (fun c22 => ?_) | refine vc_cond rfl (fun c22 => ?_) (fun c22 => ?_)
  ·skip
   have hns : isNilS xs[i] = true := by
    have h0 := c22
    unfold isNilS
    cases hr : xs[i].room with
    | none => rfl
    | some r => rw [hr] at h0; cases h0
   exact absurd ((hn _ (List.getElem_mem hi2)).symm.trans hns) (by simp)
  ·skip
   have hns : isNilS xs[i] = false := by
    have h0 := c22
    unfold isNilS
    cases hr : xs[i].room with
    | none => rw [hr] at h0; cases h0
    | some r => rfl
   refine vc_skip ?_
   refine vc_then ?_
   refine vc_draw (by kernel_rfl) _ none [2, 0] rfl ?_
   refine tpp 0 ?_
   refine tpp 1 ?_
   first | refine va_splitP 24 rfl (fun c24 => ?_) (fun c24 => ?_) | refine va_splitN 24 rfl (fun c24 => ?_) (fun c24 => ?_) | refine va_split 24 rfl (fun c24 => ?_) (fun c24 => ?_)
   ·skip
    refine tg 2 24 rfl (by exact y_fieldP fl_82_2 2 rfl rfl) ?_
    refine tkg 3 24 rfl (by exact y_load1 1 rfl one_3 rfl (Pts.vis rfl)) ?_
    refine tgp 4 24 ?_
    refine tpp 5 ?_
    refine tpp 6 ?_
    first | refine va_splitP 29 rfl (fun c29 => ?_) (fun c29 => ?_) | refine va_splitN 29 rfl (fun c29 => ?_) (fun c29 => ?_) | refine va_split 29 rfl (fun c29 => ?_) (fun c29 => ?_)
    ·skip
     refine tgp 7 29 ?_
     refine tgp 8 29 ?_
     refine tgp 9 29 ?_
     first | refine va_splitP 32 rfl (fun c32 => ?_) (fun c32 => ?_) | refine va_splitN 32 rfl (fun c32 => ?_) (fun c32 => ?_) | refine va_split 32 rfl (fun c32 => ?_) (fun c32 => ?_)
     ·skip
      have hls : lastP xs i = none := by
       obtain rfl : i = 0 := by omega
       rfl
      refine sk 10 32 ?_
      refine sk 11 32 ?_
      refine sk 12 32 ?_
      refine sk 13 32 ?_
      refine sk 14 32 ?_
      refine sk 15 32 ?_
      refine sk 16 32 ?_
      refine sk 17 32 ?_
      refine sk 18 32 ?_
      refine tgp 19 29 ?_
      refine tpp 20 ?_
      refine tpp 21 ?_
      refine va_done (by kernel_rfl) ?_
      refine vc_inNormal ?_
      refine vc_then ?_
      refine vc_region ?_
      refine vc_keep [(0, h.v), (2, ptrV own), (3, .int .i64 place), (5, .pointer (some ⟨b5, 0, none⟩)), (10, .bool (riseStep xs i rs hi2)), (13, h.v), (14, .int .i64 (xs.length : Int)), (15, .int .i64 (i : Int))] ⟨rfl, rfl, rfl, rfl, by first | (simp only [riseStep, c24]; rfl) | (simp only [riseStep, c24, c29, hls, prevLt]; rfl) | (simp only [riseStep, c24, decide_eq_false c29]; rfl) | (simp only [riseStep, c24, c29, hls, prevLt]; simp [*]), rfl, rfl, rfl, trivial⟩ ?_
      first | refine vc_y (y_arith _ rfl (wrapNadd (by omega))) rfl ?_ | refine vc_y (y_arith _ rfl (wrap64 (by omega) (by omega))) rfl ?_ | refine vp ?_
      refine vp ?_
      refine vc_nil ?_
      refine vc_then ?_
      exact vc_again (x := (i, rs)) (i + 1, riseStep xs i rs hi2) ⟨hi2, any_take_succ hi2 hnl hns, riseStep_ok hi2 hrs⟩ (by show xs.length - (i + 1) < xs.length - i; omega) ⟨rfl, rfl, rfl, rfl, rfl, rfl, rfl, rfl, trivial⟩ (ent_pick [1, 1] rfl)
     ·skip
      have hls := lastP_pos (l := xs) (i := i) (by omega) (by omega)
      refine tgp 10 32 ?_
      refine tgp 11 32 ?_
      first | refine tg 12 32 rfl (by exact y_arith _ rfl (wrapNsub (by omega))) ?_ | refine tg 12 32 rfl (by exact y_arith _ rfl (wrap64 (by omega) (by omega))) ?_ | refine tgp 12 32 ?_
      refine tkg 13 32 rfl (by exact y_elem 0 rfl (hv) (i - 1) rfl (by omega) sl_80 rfl rfl) ?_
      refine tg 14 32 rfl (by exact y_fieldE fl_82_2 2 rfl rfl) ?_
      refine tkg 15 32 rfl (by exact y_load1 0 rfl one_3 rfl (Rd.vis1 (hv) (List.getElem?_eq_getElem (by first | assumption | omega)) rfl)) ?_
      refine tg 16 32 rfl (by exact y_fieldP fl_82_2 2 rfl rfl) ?_
      refine tkg 17 32 rfl (by exact y_load1 1 rfl one_3 rfl (Pts.vis rfl)) ?_
      refine tgp 18 32 ?_
      refine tgp 19 29 ?_
      refine tpp 20 ?_
      refine tpp 21 ?_
      refine va_done (by kernel_rfl) ?_
      refine vc_inNormal ?_
      refine vc_then ?_
      refine vc_region ?_
      refine vc_keep [(0, h.v), (2, ptrV own), (3, .int .i64 place), (5, .pointer (some ⟨b5, 0, none⟩)), (10, .bool (riseStep xs i rs hi2)), (13, h.v), (14, .int .i64 (xs.length : Int)), (15, .int .i64 (i : Int))] ⟨rfl, rfl, rfl, rfl, by first | (simp only [riseStep, c24]; rfl) | (simp only [riseStep, c24, c29, hls, prevLt]; rfl) | (simp only [riseStep, c24, decide_eq_false c29]; rfl) | (simp only [riseStep, c24, c29, hls, prevLt]; simp [*]), rfl, rfl, rfl, trivial⟩ ?_
      first | refine vc_y (y_arith _ rfl (wrapNadd (by omega))) rfl ?_ | refine vc_y (y_arith _ rfl (wrap64 (by omega) (by omega))) rfl ?_ | refine vp ?_
      refine vp ?_
      refine vc_nil ?_
      refine vc_then ?_
      exact vc_again (x := (i, rs)) (i + 1, riseStep xs i rs hi2) ⟨hi2, any_take_succ hi2 hnl hns, riseStep_ok hi2 hrs⟩ (by show xs.length - (i + 1) < xs.length - i; omega) ⟨rfl, rfl, rfl, rfl, rfl, rfl, rfl, rfl, trivial⟩ (ent_pick [1, 1] rfl)
    ·skip
     refine sk 7 29 ?_
     refine sk 8 29 ?_
     refine sk 9 29 ?_
     refine sku 10 32 ?_
     refine sku 11 32 ?_
     refine sku 12 32 ?_
     refine sku 13 32 ?_
     refine sku 14 32 ?_
     refine sku 15 32 ?_
     refine sku 16 32 ?_
     refine sku 17 32 ?_
     refine sku 18 32 ?_
     refine sk 19 29 ?_
     refine tpp 20 ?_
     refine tpp 21 ?_
     refine va_done (by kernel_rfl) ?_
     refine vc_inNormal ?_
     refine vc_then ?_
     refine vc_region ?_
     refine vc_keep [(0, h.v), (2, ptrV own), (3, .int .i64 place), (5, .pointer (some ⟨b5, 0, none⟩)), (10, .bool (riseStep xs i rs hi2)), (13, h.v), (14, .int .i64 (xs.length : Int)), (15, .int .i64 (i : Int))] ⟨rfl, rfl, rfl, rfl, by first | (simp only [riseStep, c24]; rfl) | (simp only [riseStep, c24, c29, hls, prevLt]; rfl) | (simp only [riseStep, c24, decide_eq_false c29]; rfl) | (simp only [riseStep, c24, c29, hls, prevLt]; simp [*]), rfl, rfl, rfl, trivial⟩ ?_
     first | refine vc_y (y_arith _ rfl (wrapNadd (by omega))) rfl ?_ | refine vc_y (y_arith _ rfl (wrap64 (by omega) (by omega))) rfl ?_ | refine vp ?_
     refine vp ?_
     refine vc_nil ?_
     refine vc_then ?_
     exact vc_again (x := (i, rs)) (i + 1, riseStep xs i rs hi2) ⟨hi2, any_take_succ hi2 hnl hns, riseStep_ok hi2 hrs⟩ (by show xs.length - (i + 1) < xs.length - i; omega) ⟨rfl, rfl, rfl, rfl, rfl, rfl, rfl, rfl, trivial⟩ (ent_pick [1, 1] rfl)
   ·skip
    refine sk 2 24 ?_
    refine sk 3 24 ?_
    refine sk 4 24 ?_
    refine tpp 5 ?_
    refine tpp 6 ?_
    refine sk 7 29 ?_
    refine sk 8 29 ?_
    refine sk 9 29 ?_
    refine sku 10 32 ?_
    refine sku 11 32 ?_
    refine sku 12 32 ?_
    refine sku 13 32 ?_
    refine sku 14 32 ?_
    refine sku 15 32 ?_
    refine sku 16 32 ?_
    refine sku 17 32 ?_
    refine sku 18 32 ?_
    refine sk 19 29 ?_
    refine tpp 20 ?_
    refine tpp 21 ?_
    refine va_done (by kernel_rfl) ?_
    refine vc_inNormal ?_
    refine vc_then ?_
    refine vc_region ?_
    refine vc_keep [(0, h.v), (2, ptrV own), (3, .int .i64 place), (5, .pointer (some ⟨b5, 0, none⟩)), (10, .bool (riseStep xs i rs hi2)), (13, h.v), (14, .int .i64 (xs.length : Int)), (15, .int .i64 (i : Int))] ⟨rfl, rfl, rfl, rfl, by first | (simp only [riseStep, c24]; rfl) | (simp only [riseStep, c24, c29, hls, prevLt]; rfl) | (simp only [riseStep, c24, decide_eq_false c29]; rfl) | (simp only [riseStep, c24, c29, hls, prevLt]; simp [*]), rfl, rfl, rfl, trivial⟩ ?_
    first | refine vc_y (y_arith _ rfl (wrapNadd (by omega))) rfl ?_ | refine vc_y (y_arith _ rfl (wrap64 (by omega) (by omega))) rfl ?_ | refine vp ?_
    refine vp ?_
    refine vc_nil ?_
    refine vc_then ?_
    exact vc_again (x := (i, rs)) (i + 1, riseStep xs i rs hi2) ⟨hi2, any_take_succ hi2 hnl hns, riseStep_ok hi2 hrs⟩ (by show xs.length - (i + 1) < xs.length - i; omega) ⟨rfl, rfl, rfl, rfl, rfl, rfl, rfl, rfl, trivial⟩ (ent_pick [1, 1] rfl)
 ·skip
  obtain rfl : i = xs.length := by omega
  rw [List.take_length] at hnl
  rw [List.drop_length] at hrs
  have hrs2 : riseFrom none xs = rs := by rw [hrs]; exact Bool.and_true rs
  refine vc_exit ?_
  refine vc_thenExit ?_
  refine vc_thenExit ?_
  refine vc_inExit ?_
  refine vc_then ?_
  refine vc_seq ?_
  refine vc_seq ?_
  refine vc_region ?_
  iterate 3 refine vp ?_
  first | refine vc_splitP 47 rfl (fun c47 => ?_) (fun c47 => ?_) | refine vc_splitN 47 rfl (fun c47 => ?_) (fun c47 => ?_) | refine vc_split 47 rfl (fun c47 => ?_) (fun c47 => ?_)
  ·skip
   refine vc_guardF 47 rfl rfl rfl rfl ?_
   refine vc_guardF 47 rfl rfl rfl rfl ?_
   refine vc_guardF 47 rfl rfl rfl rfl ?_
   refine vp ?_
   refine vc_nil ?_
   refine vc_then ?_
   refine vc_condT rfl ?_
   refine vc_seq ?_
   refine vc_region ?_
   refine vp ?_
   refine vp ?_
   refine vc_nil ?_
   refine vc_then ?_
   refine vc_ret ?_
   refine vc_thenRet ?_
   exact vc_end2 Tryz.results44 rfl rfl _ (ent_pick [1] rfl) ⟨rfl, rfl⟩
  ·skip
   refine vc_guardT 47 rfl rfl ?_
   refine vc_y (y_loadA 0 rfl (cs := [_, _, _]) ag_74 rfl (Pts.visA rfl)) rfl ?_
   refine vc_guardT 47 rfl rfl ?_
   refine vc_callv ca_56 (us := []) (vs := []) rfl [_] rfl [] rfl (mright_spec _ _ _) rfl ?_
   rintro _ _ ⟨rfl, rfl⟩
   refine vc_guardT 47 rfl rfl ?_
   refine vp ?_
   refine vp ?_
   refine vc_nil ?_
   refine vc_then ?_
   first | refine vc_condP rfl (fun c51 => ?_) (fun c51 => ?_) | refine vc_condN rfl (fun c51 => ?_) (fun c51 => ?_) | refine vc_cond rfl (fun c51 => ?_) (fun c51 => ?_)
   ·skip
    refine vc_seq ?_
    refine vc_region ?_
    refine vp ?_
    refine vp ?_
    refine vc_nil ?_
    refine vc_then ?_
    refine vc_ret ?_
    refine vc_thenRet ?_
    exact vc_end2 Tryz.results44 rfl rfl _ (ent_pick [1] rfl) ⟨rfl, rfl⟩
   ·skip
    rw [hrs2, notF c47, notF c51] at hr
    cases hr
theorem mopen_ok {A : HP} {h : SH} {xs : List SrcV} (hv : Vis A (Rd eSrc h xs)) (hb : xs.length ≤ 1000000) (frm to : ByteArray) (limit : Int) (own : Option Nat) (place : Int) (hn : ∀ s ∈ xs, isNilS s = false) (hr : (riseFrom none xs && rangeRight frm to limit) = true) : Does Tryz.prog 44 [h.v, .agg #[.string frm, .string to, .int .i64 limit], ptrV own, .int .i64 place] [A] (fun v l => ∃ b hl', v = .tuple #[.pointer (some ⟨b, 0, none⟩), .int .i64 0] ∧ l = CuO b ⟨xs, frm, to, limit, own, place, row0, 0, false⟩ hl' ++ [A]) := by
 refine spec_of Tryz.func44 rfl Tryz.ntmps44 Tryz.results44 _ (by simp) fun ι F => ?_
 refine vc_see 0 rfl (hv.imp fun w r => r.len) (fun hlen => ?_)
 refine vc_seq ?_
 refine vc_region ?_
 refine vc_box [_, _, _] rfl rfl rfl (fun b5 => ?_)
 refine vp ?_
 refine vp ?_
 refine vc_nil ?_
 refine vc_then ?_
 refine vc_seq ?_
 refine vc_region ?_
 refine vp ?_
 refine vc_nil ?_
 refine vc_then ?_
 refine vc_seq ?_
 refine vc_seq ?_
 refine vc_region ?_
 refine vp ?_
 refine vc_y (y_len Tryz.underlying80 rfl (by first | assumption | rfl)) rfl ?_
 refine vp ?_
 refine vc_nil ?_
 refine vc_then ?_
 refine vc_block ?_
 refine vc_loop (α := Nat × Bool) (fun xq_ => match xq_ with | (i, rs) => [(0, h.v), (2, ptrV own), (3, .int .i64 place), (5, .pointer (some ⟨b5, 0, none⟩)), (10, .bool rs), (13, h.v), (14, .int .i64 (xs.length : Int)), (15, .int .i64 (i : Int))]) (fun xq_ => match xq_ with | (i, rs) => [Pts b5 [.string frm, .string to, .int .i64 limit] 74, A]) (fun xq_ => match xq_ with | (i, rs) => xs.length - i) (fun xq_ => match xq_ with | (i, rs) => i ≤ xs.length ∧ (∀ s ∈ xs.take i, isNilS s = false) ∧ riseFrom none xs = (rs && riseFrom (lastP xs i) (xs.drop i))) (0, true) ⟨Nat.zero_le _, by simp, rfl⟩ ⟨rfl, rfl, rfl, rfl, rfl, rfl, rfl, rfl, trivial⟩ (ent_pick [0, 0] rfl) ?_
 rintro ⟨i, rs⟩ ⟨hi, hnl, hrs⟩
 show VC _ _ _ _ [(0, h.v), (2, ptrV own), (3, .int .i64 place), (5, .pointer (some ⟨b5, 0, none⟩)), (10, .bool rs), (13, h.v), (14, .int .i64 (xs.length : Int)), (15, .int .i64 (i : Int))] ([Pts b5 [.string frm, .string to, .int .i64 limit] 74, A])
 refine vc_seq ?_
 refine vc_region ?_
 refine vp ?_
 refine vc_nil ?_
 refine vc_then ?_
 refine vc_seq ?_
 first | refine vc_condP rfl (fun c16 => ?_) (fun c16 => ?_) | refine vc_condN rfl (fun c16 => ?_) (fun c16 => ?_) | refine vc_cond rfl (fun c16 => ?_) (fun c16 => ?_)
 ·skip
  have hi2 : i < xs.length := by omega
  refine vc_skip ?_
  refine vc_then ?_
  refine vc_seq ?_
  refine vc_block ?_
  refine vc_seq ?_
  refine vc_region ?_
  refine vp ?_
  refine vc_y (y_elem 1 rfl (hv) i rfl hi2 sl_80 rfl rfl) rfl ?_
  refine vc_y (y_loadA 1 rfl (cs := [_, _, _]) ag_82 rfl (Rd.visA (hv) (List.getElem?_eq_getElem (by first | assumption | omega)) rfl)) rfl ?_
  refine vc_alloc [.pointer none, .int .i64 0, .int .i64 0] ze_82 rfl rfl (fun b12 => ?_)
  refine vp ?_
  refine vc_storeP 0 rfl [_, _, _] [_, _, _] rfl rfl rfl sz_82 rfl rfl rfl ?_
  refine vc_nil ?_
  refine vc_then ?_
  refine vc_seq ?_
  refine vc_seq ?_
  refine vc_region ?_
  refine vc_y (y_fieldP fl_82_0 0 rfl rfl) rfl ?_
  refine vc_y (y_load1 0 rfl one_28 rfl (Pts.vis rfl)) rfl ?_
  refine vc_y (y_eqNil ep_28 rfl rfl) rfl ?_
  refine vc_nil ?_
  refine vc_then ?_
  first | refine vc_condP rfl (fun c22 => ?_) (fun c22 => ?_) | refine vc_condN rfl (fun c22 => ?_) (fun c22 => ?_) | refine vc_cond rfl (fun c22 => ?_) (fun c22 => ?_)
  ·skip
   have hns : isNilS xs[i] = true := by
    have h0 := c22
    unfold isNilS
    cases hr : xs[i].room with
    | none => rfl
    | some r => rw [hr] at h0; cases h0
   exact absurd ((hn _ (List.getElem_mem hi2)).symm.trans hns) (by simp)
  ·skip
   have hns : isNilS xs[i] = false := by
    have h0 := c22
    unfold isNilS
    cases hr : xs[i].room with
    | none => rw [hr] at h0; cases h0
    | some r => rfl
   refine vc_skip ?_
   refine vc_then ?_
   refine vc_draw (by kernel_rfl) _ none [2, 0] rfl ?_
   refine tpp 0 ?_
   refine tpp 1 ?_
   first | refine va_splitP 24 rfl (fun c24 => ?_) (fun c24 => ?_) | refine va_splitN 24 rfl (fun c24 => ?_) (fun c24 => ?_) | refine va_split 24 rfl (fun c24 => ?_) (fun c24 => ?_)
   ·skip
    refine tg 2 24 rfl (by exact y_fieldP fl_82_2 2 rfl rfl) ?_
    refine tkg 3 24 rfl (by exact y_load1 1 rfl one_3 rfl (Pts.vis rfl)) ?_
    refine tgp 4 24 ?_
    refine tpp 5 ?_
    refine tpp 6 ?_
    first | refine va_splitP 29 rfl (fun c29 => ?_) (fun c29 => ?_) | refine va_splitN 29 rfl (fun c29 => ?_) (fun c29 => ?_) | refine va_split 29 rfl (fun c29 => ?_) (fun c29 => ?_)
    ·skip
     refine tgp 7 29 ?_
     refine tgp 8 29 ?_
     refine tgp 9 29 ?_
     first | refine va_splitP 32 rfl (fun c32 => ?_) (fun c32 => ?_) | refine va_splitN 32 rfl (fun c32 => ?_) (fun c32 => ?_) | refine va_split 32 rfl (fun c32 => ?_) (fun c32 => ?_)
     ·skip
      have hls : lastP xs i = none := by
       obtain rfl : i = 0 := by omega
       rfl
      refine sk 10 32 ?_
      refine sk 11 32 ?_
      refine sk 12 32 ?_
      refine sk 13 32 ?_
      refine sk 14 32 ?_
      refine sk 15 32 ?_
      refine sk 16 32 ?_
      refine sk 17 32 ?_
      refine sk 18 32 ?_
      refine tgp 19 29 ?_
      refine tpp 20 ?_
      refine tpp 21 ?_
      refine va_done (by kernel_rfl) ?_
      refine vc_inNormal ?_
      refine vc_then ?_
      refine vc_region ?_
      refine vc_keep [(0, h.v), (2, ptrV own), (3, .int .i64 place), (5, .pointer (some ⟨b5, 0, none⟩)), (10, .bool (riseStep xs i rs hi2)), (13, h.v), (14, .int .i64 (xs.length : Int)), (15, .int .i64 (i : Int))] ⟨rfl, rfl, rfl, rfl, by first | (simp only [riseStep, c24]; rfl) | (simp only [riseStep, c24, c29, hls, prevLt]; rfl) | (simp only [riseStep, c24, decide_eq_false c29]; rfl) | (simp only [riseStep, c24, c29, hls, prevLt]; simp [*]), rfl, rfl, rfl, trivial⟩ ?_
      first | refine vc_y (y_arith _ rfl (wrapNadd (by omega))) rfl ?_ | refine vc_y (y_arith _ rfl (wrap64 (by omega) (by omega))) rfl ?_ | refine vp ?_
      refine vp ?_
      refine vc_nil ?_
      refine vc_then ?_
      exact vc_again (x := (i, rs)) (i + 1, riseStep xs i rs hi2) ⟨hi2, any_take_succ hi2 hnl hns, riseStep_ok hi2 hrs⟩ (by show xs.length - (i + 1) < xs.length - i; omega) ⟨rfl, rfl, rfl, rfl, rfl, rfl, rfl, rfl, trivial⟩ (ent_pick [1, 1] rfl)
     ·skip
      have hls := lastP_pos (l := xs) (i := i) (by omega) (by omega)
      refine tgp 10 32 ?_
      refine tgp 11 32 ?_
      first | refine tg 12 32 rfl (by exact y_arith _ rfl (wrapNsub (by omega))) ?_ | refine tg 12 32 rfl (by exact y_arith _ rfl (wrap64 (by omega) (by omega))) ?_ | refine tgp 12 32 ?_
      refine tkg 13 32 rfl (by exact y_elem 0 rfl (hv) (i - 1) rfl (by omega) sl_80 rfl rfl) ?_
      refine tg 14 32 rfl (by exact y_fieldE fl_82_2 2 rfl rfl) ?_
      refine tkg 15 32 rfl (by exact y_load1 0 rfl one_3 rfl (Rd.vis1 (hv) (List.getElem?_eq_getElem (by first | assumption | omega)) rfl)) ?_
      refine tg 16 32 rfl (by exact y_fieldP fl_82_2 2 rfl rfl) ?_
      refine tkg 17 32 rfl (by exact y_load1 1 rfl one_3 rfl (Pts.vis rfl)) ?_
      refine tgp 18 32 ?_
      refine tgp 19 29 ?_
      refine tpp 20 ?_
      refine tpp 21 ?_
      refine va_done (by kernel_rfl) ?_
      refine vc_inNormal ?_
      refine vc_then ?_
      refine vc_region ?_
      refine vc_keep [(0, h.v), (2, ptrV own), (3, .int .i64 place), (5, .pointer (some ⟨b5, 0, none⟩)), (10, .bool (riseStep xs i rs hi2)), (13, h.v), (14, .int .i64 (xs.length : Int)), (15, .int .i64 (i : Int))] ⟨rfl, rfl, rfl, rfl, by first | (simp only [riseStep, c24]; rfl) | (simp only [riseStep, c24, c29, hls, prevLt]; rfl) | (simp only [riseStep, c24, decide_eq_false c29]; rfl) | (simp only [riseStep, c24, c29, hls, prevLt]; simp [*]), rfl, rfl, rfl, trivial⟩ ?_
      first | refine vc_y (y_arith _ rfl (wrapNadd (by omega))) rfl ?_ | refine vc_y (y_arith _ rfl (wrap64 (by omega) (by omega))) rfl ?_ | refine vp ?_
      refine vp ?_
      refine vc_nil ?_
      refine vc_then ?_
      exact vc_again (x := (i, rs)) (i + 1, riseStep xs i rs hi2) ⟨hi2, any_take_succ hi2 hnl hns, riseStep_ok hi2 hrs⟩ (by show xs.length - (i + 1) < xs.length - i; omega) ⟨rfl, rfl, rfl, rfl, rfl, rfl, rfl, rfl, trivial⟩ (ent_pick [1, 1] rfl)
    ·skip
     refine sk 7 29 ?_
     refine sk 8 29 ?_
     refine sk 9 29 ?_
     refine sku 10 32 ?_
     refine sku 11 32 ?_
     refine sku 12 32 ?_
     refine sku 13 32 ?_
     refine sku 14 32 ?_
     refine sku 15 32 ?_
     refine sku 16 32 ?_
     refine sku 17 32 ?_
     refine sku 18 32 ?_
     refine sk 19 29 ?_
     refine tpp 20 ?_
     refine tpp 21 ?_
     refine va_done (by kernel_rfl) ?_
     refine vc_inNormal ?_
     refine vc_then ?_
     refine vc_region ?_
     refine vc_keep [(0, h.v), (2, ptrV own), (3, .int .i64 place), (5, .pointer (some ⟨b5, 0, none⟩)), (10, .bool (riseStep xs i rs hi2)), (13, h.v), (14, .int .i64 (xs.length : Int)), (15, .int .i64 (i : Int))] ⟨rfl, rfl, rfl, rfl, by first | (simp only [riseStep, c24]; rfl) | (simp only [riseStep, c24, c29, hls, prevLt]; rfl) | (simp only [riseStep, c24, decide_eq_false c29]; rfl) | (simp only [riseStep, c24, c29, hls, prevLt]; simp [*]), rfl, rfl, rfl, trivial⟩ ?_
     first | refine vc_y (y_arith _ rfl (wrapNadd (by omega))) rfl ?_ | refine vc_y (y_arith _ rfl (wrap64 (by omega) (by omega))) rfl ?_ | refine vp ?_
     refine vp ?_
     refine vc_nil ?_
     refine vc_then ?_
     exact vc_again (x := (i, rs)) (i + 1, riseStep xs i rs hi2) ⟨hi2, any_take_succ hi2 hnl hns, riseStep_ok hi2 hrs⟩ (by show xs.length - (i + 1) < xs.length - i; omega) ⟨rfl, rfl, rfl, rfl, rfl, rfl, rfl, rfl, trivial⟩ (ent_pick [1, 1] rfl)
   ·skip
    refine sk 2 24 ?_
    refine sk 3 24 ?_
    refine sk 4 24 ?_
    refine tpp 5 ?_
    refine tpp 6 ?_
    refine sk 7 29 ?_
    refine sk 8 29 ?_
    refine sk 9 29 ?_
    refine sku 10 32 ?_
    refine sku 11 32 ?_
    refine sku 12 32 ?_
    refine sku 13 32 ?_
    refine sku 14 32 ?_
    refine sku 15 32 ?_
    refine sku 16 32 ?_
    refine sku 17 32 ?_
    refine sku 18 32 ?_
    refine sk 19 29 ?_
    refine tpp 20 ?_
    refine tpp 21 ?_
    refine va_done (by kernel_rfl) ?_
    refine vc_inNormal ?_
    refine vc_then ?_
    refine vc_region ?_
    refine vc_keep [(0, h.v), (2, ptrV own), (3, .int .i64 place), (5, .pointer (some ⟨b5, 0, none⟩)), (10, .bool (riseStep xs i rs hi2)), (13, h.v), (14, .int .i64 (xs.length : Int)), (15, .int .i64 (i : Int))] ⟨rfl, rfl, rfl, rfl, by first | (simp only [riseStep, c24]; rfl) | (simp only [riseStep, c24, c29, hls, prevLt]; rfl) | (simp only [riseStep, c24, decide_eq_false c29]; rfl) | (simp only [riseStep, c24, c29, hls, prevLt]; simp [*]), rfl, rfl, rfl, trivial⟩ ?_
    first | refine vc_y (y_arith _ rfl (wrapNadd (by omega))) rfl ?_ | refine vc_y (y_arith _ rfl (wrap64 (by omega) (by omega))) rfl ?_ | refine vp ?_
    refine vp ?_
    refine vc_nil ?_
    refine vc_then ?_
    exact vc_again (x := (i, rs)) (i + 1, riseStep xs i rs hi2) ⟨hi2, any_take_succ hi2 hnl hns, riseStep_ok hi2 hrs⟩ (by show xs.length - (i + 1) < xs.length - i; omega) ⟨rfl, rfl, rfl, rfl, rfl, rfl, rfl, rfl, trivial⟩ (ent_pick [1, 1] rfl)
 ·skip
  obtain rfl : i = xs.length := by omega
  rw [List.take_length] at hnl
  rw [List.drop_length] at hrs
  have hrs2 : riseFrom none xs = rs := by rw [hrs]; exact Bool.and_true rs
  refine vc_exit ?_
  refine vc_thenExit ?_
  refine vc_thenExit ?_
  refine vc_inExit ?_
  refine vc_then ?_
  refine vc_seq ?_
  refine vc_seq ?_
  refine vc_region ?_
  iterate 3 refine vp ?_
  first | refine vc_splitP 47 rfl (fun c47 => ?_) (fun c47 => ?_) | refine vc_splitN 47 rfl (fun c47 => ?_) (fun c47 => ?_) | refine vc_split 47 rfl (fun c47 => ?_) (fun c47 => ?_)
  ·skip
   rw [hrs2, notT c47] at hr
   cases hr
  ·skip
   refine vc_guardT 47 rfl rfl ?_
   refine vc_y (y_loadA 0 rfl (cs := [_, _, _]) ag_74 rfl (Pts.visA rfl)) rfl ?_
   refine vc_guardT 47 rfl rfl ?_
   refine vc_callv ca_56 (us := []) (vs := []) rfl [_] rfl [] rfl (mright_spec _ _ _) rfl ?_
   rintro _ _ ⟨rfl, rfl⟩
   refine vc_guardT 47 rfl rfl ?_
   refine vp ?_
   refine vp ?_
   refine vc_nil ?_
   refine vc_then ?_
   first | refine vc_condP rfl (fun c51 => ?_) (fun c51 => ?_) | refine vc_condN rfl (fun c51 => ?_) (fun c51 => ?_) | refine vc_cond rfl (fun c51 => ?_) (fun c51 => ?_)
   ·skip
    rw [notT c51, Bool.and_false] at hr
    cases hr
   ·skip
    refine vc_skip ?_
    refine vc_then ?_
    refine vc_seq ?_
    refine vc_draw (by kernel_rfl) _ none [0] rfl ?_
    refine tpp 1 ?_
    refine tk 3 rfl (by exact y_loadA 0 rfl (cs := [_, _, _]) ag_74 rfl (Pts.visA rfl)) ?_
    refine tpp 4 ?_
    refine tpp 5 ?_
    refine va_ready [0] (by kernel_rfl) rfl ?_
    refine vo_cons rfl (fun hC0 => ?_) ?_
    ·skip
     refine vc_buildSlice (E := eSrc) [] [] rfl rfl (bs_80_0  ) rfl (fun h52 => ?_)
     refine vc_nil ?_
     refine vc_then ?_
     refine va_kept hC0 [1] rfl ?_
     clear hC0
     refine va_ready [2] (by kernel_rfl) rfl ?_
     refine vo_cons rfl (fun hC0 => ?_) ?_
     ·skip
      refine vc_append 0 rfl 2 rfl (hv) el_80_eSrc Tryz.underlying80 rfl rfl (by simp; omega) (by simp; omega) rfl (fun h54 => ?_)
      refine vc_nil ?_
      refine vc_then ?_
      refine va_kept hC0 [1] rfl ?_
      clear hC0
      refine tp 6 rfl (by exact y_build [(0, _), (1, _), (2, _), (3, _)] [_, _, _, _, _, _, _, _, _, _, _, _, _] rfl (bu_163_0_1_2_3 _ _ _ _ _ _ rfl rfl rfl)) ?_
      refine va_ready [7] (by kernel_rfl) rfl ?_
      refine vo_cons rfl (fun hC0 => ?_) ?_
      ·skip
       refine vc_box [_, _, _, _, _, _, _, _, _, _, _, _, _] rfl rfl rfl (fun b59 => ?_)
       refine vc_nil ?_
       refine vc_then ?_
       refine va_kept hC0 [2] rfl ?_
       clear hC0
       refine tpp 8 ?_
       refine tpp 9 ?_
       refine va_done (by kernel_rfl) ?_
       refine vc_then ?_
       refine vc_ret ?_
       exact vc_end2 Tryz.results44 rfl rfl _ (ent_pick [0, 0, 1] rfl) ⟨b59, h54, rfl, rfl⟩
      exact vo_nil
     exact vo_nil
    exact vo_nil
theorem told_nil : Does Tryz.prog 45 [.pointer none] [] (fun v l => v = .int .i64 0 ∧ l = []) := by
 refine spec_of Tryz.func45 rfl Tryz.ntmps45 Tryz.results45 _ (by simp) fun ι F => ?_
 refine vc_seq ?_
 refine vc_region ?_
 refine vp ?_
 refine vc_nil ?_
 refine vc_then ?_
 refine vc_seq ?_
 refine vc_seq ?_
 refine vc_region ?_
 refine vp ?_
 refine vc_y (y_eqNil ep_76 rfl rfl) rfl ?_
 refine vc_nil ?_
 refine vc_then ?_
 refine vc_condT rfl ?_
 refine vc_seq ?_
 refine vc_region ?_
 refine vp ?_
 refine vc_nil ?_
 refine vc_then ?_
 refine vc_ret ?_
 refine vc_thenRet ?_
 exact vc_end1 Tryz.results45 rfl _ (ent_pick [] rfl) ⟨rfl, rfl⟩
theorem told_spec {b : Nat} {C : Cu} {hl : SH} : Does Tryz.prog 45 [.pointer (some ⟨b, 0, none⟩)] (CuO b C hl) (fun v l => v = .int .i64 C.told ∧ l = CuO b C hl) := by
 refine spec_of Tryz.func45 rfl Tryz.ntmps45 Tryz.results45 _ (by simp) fun ι F => ?_
 refine vc_seq ?_
 refine vc_region ?_
 refine vp ?_
 refine vc_nil ?_
 refine vc_then ?_
 refine vc_seq ?_
 refine vc_seq ?_
 refine vc_region ?_
 refine vp ?_
 refine vc_y (y_eqNil ep_76 rfl rfl) rfl ?_
 refine vc_nil ?_
 refine vc_then ?_
 refine vc_condF rfl ?_
 refine vc_skip ?_
 refine vc_then ?_
 refine vc_seq ?_
 refine vc_region ?_
 refine vp ?_
 refine vp ?_
 refine vc_y (y_fieldP fl_163_5 11 rfl rfl) rfl ?_
 refine vc_y (y_load1 0 rfl one_3 rfl (Pts.vis rfl)) rfl ?_
 refine vp ?_
 refine vc_nil ?_
 refine vc_then ?_
 refine vc_ret ?_
 exact vc_end1 Tryz.results45 rfl _ (ent_pick [0, 0] rfl) ⟨rfl, rfl⟩
theorem from_spec0 {b : Nat} {C : Cu} {hl : SH} (s : SrcV) : Does Tryz.prog 141 [.pointer (some ⟨b, 0, none⟩), .agg #[ptrV s.room, .int .i64 s.seq, .int .i64 s.place]] (CuO b C hl) (fun v l => v = .tuple #[.string (fromC C s).1, .bool (fromC C s).2] ∧ l = CuO b C hl) := by
 refine spec_of Tryz.func141 rfl Tryz.ntmps141 Tryz.results141 _ (by simp) fun ι F => ?_
 refine vc_seq ?_
 refine vc_region ?_
 refine vc_box [_, _, _] rfl rfl rfl (fun b3 => ?_)
 refine vp ?_
 refine vp ?_
 refine vc_nil ?_
 refine vc_then ?_
 refine vc_seq ?_
 refine vc_seq ?_
 refine vc_region ?_
 refine vp ?_
 refine vp ?_
 refine vc_y (y_fieldP fl_163_5 11 rfl rfl) rfl ?_
 refine vc_y (y_load1 1 rfl one_3 rfl (Pts.vis rfl)) rfl ?_
 refine vp ?_
 refine vc_nil ?_
 refine vc_then ?_
 first | refine vc_condP rfl (fun c10 => ?_) (fun c10 => ?_) | refine vc_condN rfl (fun c10 => ?_) (fun c10 => ?_) | refine vc_cond rfl (fun c10 => ?_) (fun c10 => ?_)
 ·skip
  refine vc_seq ?_
  refine vc_region ?_
  refine vp ?_
  refine vp ?_
  refine vc_y (y_fieldP fl_163_1 1 rfl rfl) rfl ?_
  refine vc_y (y_fieldP fl_74_0 1 rfl rfl) rfl ?_
  refine vc_y (y_load1 1 rfl one_9 rfl (Pts.vis rfl)) rfl ?_
  refine vp ?_
  refine vp ?_
  refine vc_nil ?_
  refine vc_then ?_
  refine vc_ret ?_
  refine vc_thenRet ?_
  exact vc_end2 Tryz.results141 rfl rfl _ (ent_pick [1, 1] rfl) ⟨by simp [fromC, c10], rfl⟩
 ·skip
  refine vc_skip ?_
  refine vc_then ?_
  refine vc_seq ?_
  refine vc_draw (by kernel_rfl) _ none [1, 0] rfl ?_
  refine tpp 0 ?_
  refine tpp 1 ?_
  refine tp 2 rfl (by exact y_fieldP fl_163_4 6 rfl rfl) ?_
  refine tp 3 rfl (by exact y_fieldP fl_158_1 7 rfl rfl) ?_
  refine tk 4 rfl (by exact y_load1 0 rfl one_9 rfl (Pts.vis rfl)) ?_
  refine tp 5 rfl (by exact y_fieldP fl_82_2 2 rfl rfl) ?_
  refine tk 6 rfl (by exact y_load1 1 rfl one_3 rfl (Pts.vis rfl)) ?_
  refine tpp 7 ?_
  refine tpp 8 ?_
  refine tp 9 rfl (by exact y_fieldP fl_163_4 6 rfl rfl) ?_
  refine tp 10 rfl (by exact y_fieldP fl_158_0 6 rfl rfl) ?_
  refine tk 11 rfl (by exact y_load1 0 rfl one_3 rfl (Pts.vis rfl)) ?_
  refine tpp 12 ?_
  refine tpp 13 ?_
  refine tpp 14 ?_
  refine va_done (by kernel_rfl) ?_
  refine vc_then ?_
  refine vc_ret ?_
  exact vc_end2 Tryz.results141 rfl rfl _ (ent_pick [1, 1] rfl) ⟨by simp [fromC, c10], rfl⟩
theorem inRoom_spec {W : HP} {s : SrcV} {q : Qr} (hS : SrcOk W s q) (key : ByteArray) (ab : Bool) : Does Tryz.prog 176 [.agg #[ptrV s.room, .int .i64 s.seq, .int .i64 s.place], .string key, .bool ab] [W] (fun v l => v = fdTup (fdRoom (q key ab)) ∧ l = [W]) := by
 refine spec_of Tryz.func176 rfl Tryz.ntmps176 Tryz.results176 _ (by simp) fun ι F => ?_
 obtain ⟨rb, hrb, hA, hK⟩ := hS.ok
 rw [hrb]
 refine vc_seq ?_
 refine vc_region ?_
 refine vc_box [_, _, _] rfl rfl rfl (fun b3 => ?_)
 refine vp ?_
 refine vc_alloc [.bool false, .string ⟨#[]⟩, .int .u64 0] ze_45 rfl rfl (fun b7 => ?_)
 refine vp ?_
 refine vp ?_
 refine vc_nil ?_
 refine vc_then ?_
 refine vc_seq ?_
 refine vc_seq ?_
 refine vc_region ?_
 refine vp ?_
 refine vc_nil ?_
 refine vc_then ?_
 first | refine vc_condP rfl (fun c16 => ?_) (fun c16 => ?_) | refine vc_condN rfl (fun c16 => ?_) (fun c16 => ?_) | refine vc_cond rfl (fun c16 => ?_) (fun c16 => ?_)
 ·skip
  obtain rfl : ab = true := c16
  refine vc_seq ?_
  refine vc_region ?_
  refine vc_y (y_fieldP fl_82_0 0 rfl rfl) rfl ?_
  refine vc_y (y_load1 1 rfl one_28 rfl (Pts.vis rfl)) rfl ?_
  refine vp ?_
  refine vc_y (y_fieldP fl_82_1 1 rfl rfl) rfl ?_
  refine vc_y (y_load1 1 rfl one_3 rfl (Pts.vis rfl)) rfl ?_
  refine vc_callv ca_20 (us := []) (vs := []) rfl [_, _, _] rfl [2] rfl (hA key) rfl ?_
  rintro _ _ ⟨rfl, rfl⟩
  iterate 4 refine vp ?_
  refine vc_alloc [.bool false, .string ⟨#[]⟩, .int .u64 0] ze_45 rfl rfl (fun b11 => ?_)
  refine vp ?_
  refine vc_storeP 0 rfl [_, _, _] [_, _, _] rfl rfl rfl sz_45 rfl rfl rfl ?_
  refine vp ?_
  refine vc_nil ?_
  refine vc_then ?_
  refine vc_seq ?_
  refine vc_draw (by kernel_rfl) _ none [0] rfl ?_
  refine tpp 0 ?_
  refine tk 1 rfl (by exact y_loadA 0 rfl (cs := [_, _, _]) ag_45 rfl (Pts.visA rfl)) ?_
  refine tpp 2 ?_
  refine tpp 3 ?_
  refine va_ready [4] (by kernel_rfl) rfl ?_
  refine vo_cons rfl (fun hC0 => ?_) ?_
  ·skip
   refine vc_storeP 2 rfl [_, _, _] [_, _, _] rfl rfl rfl sz_45 rfl rfl rfl ?_
   refine vc_nil ?_
   refine vc_then ?_
   refine va_kept hC0 [0] rfl ?_
   clear hC0
   refine tpp 5 ?_
   refine tpp 6 ?_
   refine va_done (by kernel_rfl) ?_
   refine vc_then ?_
   refine vc_ret ?_
   refine vc_thenRet ?_
   exact vc_endR Tryz.results176 (resL_cons (res_t rfl) (resL_cons (res_a 2 rfl (cs := [_, _, _]) ag_45 rfl (Pts.visA rfl)) (resL_cons (res_t rfl) (resL_cons (res_t rfl) (resL_nil))))) _ (ent_pick [1] rfl) ⟨rfl, rfl⟩
  exact vo_nil
 ·skip
  obtain rfl : ab = false := c16
  refine vc_skip ?_
  refine vc_then ?_
  refine vc_seq ?_
  refine vc_region ?_
  refine vc_y (y_fieldP fl_82_0 0 rfl rfl) rfl ?_
  refine vc_y (y_load1 1 rfl one_28 rfl (Pts.vis rfl)) rfl ?_
  refine vp ?_
  refine vc_y (y_fieldP fl_82_1 1 rfl rfl) rfl ?_
  refine vc_y (y_load1 1 rfl one_3 rfl (Pts.vis rfl)) rfl ?_
  refine vc_callv ca_99 (us := []) (vs := []) rfl [_, _, _] rfl [2] rfl (hK key) rfl ?_
  rintro _ _ ⟨rfl, rfl⟩
  iterate 4 refine vp ?_
  refine vc_alloc [.bool false, .string ⟨#[]⟩, .int .u64 0] ze_45 rfl rfl (fun b14 => ?_)
  refine vp ?_
  refine vc_storeP 0 rfl [_, _, _] [_, _, _] rfl rfl rfl sz_45 rfl rfl rfl ?_
  refine vp ?_
  refine vc_nil ?_
  refine vc_then ?_
  refine vc_seq ?_
  refine vc_draw (by kernel_rfl) _ none [0] rfl ?_
  refine tpp 0 ?_
  refine tk 1 rfl (by exact y_loadA 0 rfl (cs := [_, _, _]) ag_45 rfl (Pts.visA rfl)) ?_
  refine tpp 2 ?_
  refine tpp 3 ?_
  refine va_ready [4] (by kernel_rfl) rfl ?_
  refine vo_cons rfl (fun hC0 => ?_) ?_
  ·skip
   refine vc_storeP 2 rfl [_, _, _] [_, _, _] rfl rfl rfl sz_45 rfl rfl rfl ?_
   refine vc_nil ?_
   refine vc_then ?_
   refine va_kept hC0 [0] rfl ?_
   clear hC0
   refine tpp 5 ?_
   refine tpp 6 ?_
   refine va_done (by kernel_rfl) ?_
   refine vc_then ?_
   refine vc_ret ?_
   exact vc_endR Tryz.results176 (resL_cons (res_t rfl) (resL_cons (res_a 2 rfl (cs := [_, _, _]) ag_45 rfl (Pts.visA rfl)) (resL_cons (res_t rfl) (resL_cons (res_t rfl) (resL_nil))))) _ (ent_pick [1] rfl) ⟨rfl, rfl⟩
  exact vo_nil
theorem inSet_spec {b : Nat} {C : Cu} {hl : SH} {V : HP} {own : Qw} (hO : OwnOk V C.own own) (key : ByteArray) (ab : Bool) : Does Tryz.prog 178 [.pointer (some ⟨b, 0, none⟩), .string key, .bool ab] [CuP b C hl, V] (fun v l => v = fdTup (fdSet (own key ab)) ∧ l = [CuP b C hl, V]) := by
 refine spec_of Tryz.func178 rfl Tryz.ntmps178 Tryz.results178 _ (by simp) fun ι F => ?_
 refine vc_seq ?_
 refine vc_region ?_
 refine vp ?_
 refine vc_alloc [.bool false, .string ⟨#[]⟩, .int .u64 0] ze_45 rfl rfl (fun b7 => ?_)
 refine vp ?_
 refine vp ?_
 refine vc_nil ?_
 refine vc_then ?_
 refine vc_seq ?_
 refine vc_region ?_
 refine vp ?_
 refine vp ?_
 refine vc_y (y_fieldP fl_163_2 4 rfl rfl) rfl ?_
 refine vc_y (y_load1 1 rfl one_94 rfl (Pts.vis rfl)) rfl ?_
 refine vp ?_
 refine vc_callv ca_202 (us := []) (vs := []) rfl [_, _] rfl [2] rfl (hO.sk key) rfl ?_
 rintro _ _ ⟨rfl, rfl⟩
 iterate 3 refine vp ?_
 refine vc_alloc [.string ⟨#[]⟩, .bool false, .bool false, .string ⟨#[]⟩, .int .u64 0] ze_97 rfl rfl (fun b10 => ?_)
 refine vc_storeP 0 rfl [_, _, _, _, _] [_, _, _, _, _] rfl rfl rfl sz_97 rfl rfl rfl ?_
 refine vp ?_
 refine vc_nil ?_
 refine vc_then ?_
 refine vc_seq ?_
 refine vc_seq ?_
 refine vc_region ?_
 refine vp ?_
 refine vc_nil ?_
 refine vc_then ?_
 first | refine vc_condP rfl (fun c21 => ?_) (fun c21 => ?_) | refine vc_condN rfl (fun c21 => ?_) (fun c21 => ?_) | refine vc_cond rfl (fun c21 => ?_) (fun c21 => ?_)
 ·skip
  obtain rfl : ab = true := c21
  refine vc_region ?_
  refine vp ?_
  refine vp ?_
  refine vc_y (y_fieldP fl_163_2 4 rfl rfl) rfl ?_
  refine vc_y (y_load1 3 rfl one_94 rfl (Pts.vis rfl)) rfl ?_
  refine vp ?_
  refine vc_callv ca_203 (us := []) (vs := []) rfl [_, _] rfl [1] rfl (hO.af key) rfl ?_
  rintro _ _ ⟨rfl, rfl⟩
  iterate 3 refine vp ?_
  refine vc_storeP 1 rfl [_, _, _, _, _] [_, _, _, _, _] rfl rfl rfl sz_97 rfl rfl rfl ?_
  refine vp ?_
  refine vc_nil ?_
  refine vc_then ?_
  refine vc_seq ?_
  refine vc_draw (by kernel_rfl) _ none [1] rfl ?_
  refine tp 0 rfl (by exact y_fieldP fl_97_0 0 rfl rfl) ?_
  refine tk 1 rfl (by exact y_load1 0 rfl one_9 rfl (Pts.vis rfl)) ?_
  refine tp 2 rfl (by exact y_fieldP fl_97_2 2 rfl rfl) ?_
  refine tk 3 rfl (by exact y_loadA 0 rfl (cs := [_, _, _]) ag_45 rfl (Pts.visA rfl)) ?_
  refine tp 4 rfl (by exact y_fieldP fl_97_1 1 rfl rfl) ?_
  refine tk 5 rfl (by exact y_load1 0 rfl one_4 rfl (Pts.vis rfl)) ?_
  refine tpp 6 ?_
  refine tpp 7 ?_
  refine tpp 8 ?_
  refine va_ready [9] (by kernel_rfl) rfl ?_
  refine vo_cons rfl (fun hC0 => ?_) ?_
  ·skip
   refine vc_storeP 2 rfl [_, _, _] [_, _, _] rfl rfl rfl sz_45 rfl rfl rfl ?_
   refine vc_nil ?_
   refine vc_then ?_
   refine va_kept hC0 [1] rfl ?_
   clear hC0
   refine tpp 10 ?_
   refine tpp 11 ?_
   refine va_done (by kernel_rfl) ?_
   refine vc_then ?_
   refine vc_ret ?_
   exact vc_endR Tryz.results178 (resL_cons (res_t rfl) (resL_cons (res_a 2 rfl (cs := [_, _, _]) ag_45 rfl (Pts.visA rfl)) (resL_cons (res_t rfl) (resL_cons (res_t rfl) (resL_nil))))) _ (ent_pick [3, 0] rfl) ⟨rfl, rfl⟩
  exact vo_nil
 ·skip
  obtain rfl : ab = false := c21
  refine vc_skip ?_
  refine vc_then ?_
  refine vc_seq ?_
  refine vc_draw (by kernel_rfl) _ none [0] rfl ?_
  refine tp 0 rfl (by exact y_fieldP fl_97_0 0 rfl rfl) ?_
  refine tk 1 rfl (by exact y_load1 0 rfl one_9 rfl (Pts.vis rfl)) ?_
  refine tp 2 rfl (by exact y_fieldP fl_97_2 2 rfl rfl) ?_
  refine tk 3 rfl (by exact y_loadA 0 rfl (cs := [_, _, _]) ag_45 rfl (Pts.visA rfl)) ?_
  refine tp 4 rfl (by exact y_fieldP fl_97_1 1 rfl rfl) ?_
  refine tk 5 rfl (by exact y_load1 0 rfl one_4 rfl (Pts.vis rfl)) ?_
  refine tpp 6 ?_
  refine tpp 7 ?_
  refine tpp 8 ?_
  refine va_ready [9] (by kernel_rfl) rfl ?_
  refine vo_cons rfl (fun hC0 => ?_) ?_
  ·skip
   refine vc_storeP 2 rfl [_, _, _] [_, _, _] rfl rfl rfl sz_45 rfl rfl rfl ?_
   refine vc_nil ?_
   refine vc_then ?_
   refine va_kept hC0 [0] rfl ?_
   clear hC0
   refine tpp 10 ?_
   refine tpp 11 ?_
   refine va_done (by kernel_rfl) ?_
   refine vc_then ?_
   refine vc_ret ?_
   exact vc_endR Tryz.results178 (resL_cons (res_t rfl) (resL_cons (res_a 2 rfl (cs := [_, _, _]) ag_45 rfl (Pts.visA rfl)) (resL_cons (res_t rfl) (resL_cons (res_t rfl) (resL_nil))))) _ (ent_pick [3, 1] rfl) ⟨rfl, rfl⟩
  exact vo_nil
theorem over_spec (b : Nat) (s : SrcV) : Does Tryz.prog 177 [.func (.func 178) #[.pointer (some ⟨b, 0, none⟩)] #[], .func (.func 176) #[.agg #[ptrV s.room, .int .i64 s.seq, .int .i64 s.place]] #[]] [] (fun v l => ∃ b2 b3, v = .func (.func 201) #[] #[.pointer (some ⟨b2, 0, none⟩), .pointer (some ⟨b3, 0, none⟩)] ∧ l = [Pts b2 [.func (.func 178) #[.pointer (some ⟨b, 0, none⟩)] #[]] 250, Pts b3 [.func (.func 176) #[.agg #[ptrV s.room, .int .i64 s.seq, .int .i64 s.place]] #[]] 250]) := by
 refine spec_of Tryz.func177 rfl Tryz.ntmps177 Tryz.results177 _ (by simp) fun ι F => ?_
 refine vc_seq ?_
 refine vc_region ?_
 refine vc_box [_] rfl rfl rfl (fun b2 => ?_)
 refine vc_box [_] rfl rfl rfl (fun b3 => ?_)
 refine vp ?_
 refine vc_nil ?_
 refine vc_then ?_
 refine vc_seq ?_
 refine vc_region ?_
 refine vc_y (y_makeFunc [] [_, _] rfl rfl) rfl ?_
 refine vp ?_
 refine vc_nil ?_
 refine vc_then ?_
 refine vc_ret ?_
 exact vc_end1 Tryz.results177 rfl _ (ent_pick [1, 0] rfl) ⟨b2, b3, rfl, rfl⟩
theorem over1_spec {b : Nat} {C : Cu} {hl : SH} {V : HP} {own : Qw} (hO : OwnOk V C.own own) {W : HP} {s : SrcV} {q : Qr} (hS : SrcOk W s q) {b2 b3 : Nat} (key : ByteArray) (ab : Bool) : Does Tryz.prog 201 [.string key, .bool ab, .pointer (some ⟨b2, 0, none⟩), .pointer (some ⟨b3, 0, none⟩)] [Pts b2 [.func (.func 178) #[.pointer (some ⟨b, 0, none⟩)] #[]] 250, Pts b3 [.func (.func 176) #[.agg #[ptrV s.room, .int .i64 s.seq, .int .i64 s.place]] #[]] 250, CuP b C hl, V, W] (fun v l => v = fdTup (fdOver (fdSet (own key ab)) (fdRoom (q key ab))) ∧ l = [Pts b2 [.func (.func 178) #[.pointer (some ⟨b, 0, none⟩)] #[]] 250, Pts b3 [.func (.func 176) #[.agg #[ptrV s.room, .int .i64 s.seq, .int .i64 s.place]] #[]] 250, CuP b C hl, V, W]) := by
 refine spec_of Tryz.func201 rfl Tryz.ntmps201 Tryz.results201 _ (by simp) fun ι F => ?_
 refine vc_seq ?_
 refine vc_region ?_
 refine vp ?_
 refine vc_alloc [.bool false, .string ⟨#[]⟩, .int .u64 0] ze_45 rfl rfl (fun b7 => ?_)
 refine vp ?_
 refine vp ?_
 refine vc_nil ?_
 refine vc_then ?_
 refine vc_seq ?_
 refine vc_region ?_
 refine vc_y (y_load1 1 rfl one_250 rfl (Pts.vis rfl)) rfl ?_
 refine vp ?_
 refine vp ?_
 refine vc_callv ca_178 (us := [.pointer (some ⟨b, 0, none⟩)]) (vs := []) rfl [_, _] rfl [3, 3] rfl (inSet_spec hO key ab) rfl ?_
 rintro _ _ ⟨rfl, rfl⟩
 iterate 5 refine vp ?_
 refine vc_alloc [.bool false, .string ⟨#[]⟩, .int .u64 0] ze_45 rfl rfl (fun b11 => ?_)
 refine vp ?_
 refine vc_storeP 0 rfl [_, _, _] [_, _, _] rfl rfl rfl sz_45 rfl rfl rfl ?_
 refine vp ?_
 refine vp ?_
 refine vc_nil ?_
 refine vc_then ?_
 refine vc_seq ?_
 refine vc_region ?_
 refine vc_y (y_load1 5 rfl one_250 rfl (Pts.vis rfl)) rfl ?_
 refine vp ?_
 refine vp ?_
 refine vc_callv ca_176 (us := [.agg #[ptrV s.room, .int .i64 s.seq, .int .i64 s.place]]) (vs := []) rfl [_, _] rfl [6] rfl (inRoom_spec hS key ab) rfl ?_
 rintro _ _ ⟨rfl, rfl⟩
 iterate 5 refine vp ?_
 refine vc_alloc [.bool false, .string ⟨#[]⟩, .int .u64 0] ze_45 rfl rfl (fun b15 => ?_)
 refine vp ?_
 refine vc_storeP 0 rfl [_, _, _] [_, _, _] rfl rfl rfl sz_45 rfl rfl rfl ?_
 refine vp ?_
 refine vp ?_
 refine vc_nil ?_
 refine vc_then ?_
 refine vc_seq ?_
 refine vc_seq ?_
 refine vc_region ?_
 iterate 3 refine vp ?_
 first | refine vc_splitP 38 rfl (fun c38 => ?_) (fun c38 => ?_) | refine vc_splitN 38 rfl (fun c38 => ?_) (fun c38 => ?_) | refine vc_split 38 rfl (fun c38 => ?_) (fun c38 => ?_)
 ·skip
  have hf := fdOver_1 (b := fdRoom (q key ab)) (notT c38)
  refine vc_guardF 38 rfl rfl rfl rfl ?_
  refine vc_guardF 38 rfl rfl rfl rfl ?_
  refine vc_guardU 40 rfl rfl rfl ?_
  refine vc_guardU 40 rfl rfl rfl ?_
  refine vc_guardU 40 rfl rfl rfl ?_
  refine vc_guardF 38 rfl rfl rfl rfl ?_
  refine vp ?_
  refine vc_nil ?_
  refine vc_then ?_
  refine vc_condT rfl ?_
  refine vc_seq ?_
  refine vc_draw (by kernel_rfl) _ none [0] rfl ?_
  refine tpp 0 ?_
  refine tk 1 rfl (by exact y_loadA 0 rfl (cs := [_, _, _]) ag_45 rfl (Pts.visA rfl)) ?_
  refine tpp 2 ?_
  refine tpp 3 ?_
  refine tpp 4 ?_
  refine va_ready [5] (by kernel_rfl) rfl ?_
  refine vo_cons rfl (fun hC0 => ?_) ?_
  ·skip
   refine vc_storeP 5 rfl [_, _, _] [_, _, _] rfl rfl rfl sz_45 rfl rfl rfl ?_
   refine vc_nil ?_
   refine vc_then ?_
   refine va_kept hC0 [0] rfl ?_
   clear hC0
   refine tpp 6 ?_
   refine tpp 7 ?_
   refine va_done (by kernel_rfl) ?_
   refine vc_then ?_
   refine vc_ret ?_
   refine vc_thenRet ?_
   exact vc_endR Tryz.results201 (resL_cons (res_t rfl) (resL_cons (res_a 5 rfl (cs := [_, _, _]) ag_45 rfl (Pts.visA rfl)) (resL_cons (res_t rfl) (resL_cons (res_t rfl) (resL_nil))))) _ (ent_pick [6, 6, 3, 3, 1] rfl) ⟨by rw [hf]; rfl, rfl⟩
  exact vo_nil
 ·skip
  have c38b : (fdSet (own key ab)).ok = true := notF c38
  refine vc_guardT 38 rfl rfl ?_
  refine vp ?_
  refine vc_guardT 38 rfl rfl ?_
  refine vp ?_
  first | refine vc_splitP 40 rfl (fun c40 => ?_) (fun c40 => ?_) | refine vc_splitN 40 rfl (fun c40 => ?_) (fun c40 => ?_) | refine vc_split 40 rfl (fun c40 => ?_) (fun c40 => ?_)
  ·skip
   refine vc_guardT 40 rfl rfl ?_
   refine vp ?_
   refine vc_guardT 40 rfl rfl ?_
   refine vp ?_
   refine vc_guardT 40 rfl rfl ?_
   refine vp ?_
   refine vc_guardT 38 rfl rfl ?_
   refine vp ?_
   refine vp ?_
   refine vc_nil ?_
   refine vc_then ?_
   first | refine vc_condP rfl (fun c45 => ?_) (fun c45 => ?_) | refine vc_condN rfl (fun c45 => ?_) (fun c45 => ?_) | refine vc_cond rfl (fun c45 => ?_) (fun c45 => ?_)
   ·skip
    have hf := fdOver_2 (a := fdSet (own key ab)) (b := fdRoom (q key ab)) c40 c45
    refine vc_seq ?_
    refine vc_draw (by kernel_rfl) _ none [0] rfl ?_
    refine tpp 0 ?_
    refine tk 1 rfl (by exact y_loadA 0 rfl (cs := [_, _, _]) ag_45 rfl (Pts.visA rfl)) ?_
    refine tpp 2 ?_
    refine tpp 3 ?_
    refine tpp 4 ?_
    refine va_ready [5] (by kernel_rfl) rfl ?_
    refine vo_cons rfl (fun hC0 => ?_) ?_
    ·skip
     refine vc_storeP 5 rfl [_, _, _] [_, _, _] rfl rfl rfl sz_45 rfl rfl rfl ?_
     refine vc_nil ?_
     refine vc_then ?_
     refine va_kept hC0 [0] rfl ?_
     clear hC0
     refine tpp 6 ?_
     refine tpp 7 ?_
     refine va_done (by kernel_rfl) ?_
     refine vc_then ?_
     refine vc_ret ?_
     refine vc_thenRet ?_
     exact vc_endR Tryz.results201 (resL_cons (res_t rfl) (resL_cons (res_a 5 rfl (cs := [_, _, _]) ag_45 rfl (Pts.visA rfl)) (resL_cons (res_t rfl) (resL_cons (res_t rfl) (resL_nil))))) _ (ent_pick [6, 6, 3, 3, 1] rfl) ⟨by rw [hf]; rfl, rfl⟩
    exact vo_nil
   ·skip
    have hf := fdOver_3 (b := fdRoom (q key ab)) c38b c45
    refine vc_skip ?_
    refine vc_then ?_
    refine vc_seq ?_
    refine vc_draw (by kernel_rfl) _ none [2] rfl ?_
    refine tpp 0 ?_
    refine tk 1 rfl (by exact y_loadA 0 rfl (cs := [_, _, _]) ag_45 rfl (Pts.visA rfl)) ?_
    refine tpp 2 ?_
    refine tpp 3 ?_
    refine tpp 4 ?_
    refine va_ready [5] (by kernel_rfl) rfl ?_
    refine vo_cons rfl (fun hC0 => ?_) ?_
    ·skip
     refine vc_storeP 5 rfl [_, _, _] [_, _, _] rfl rfl rfl sz_45 rfl rfl rfl ?_
     refine vc_nil ?_
     refine vc_then ?_
     refine va_kept hC0 [2] rfl ?_
     clear hC0
     refine tpp 6 ?_
     refine tpp 7 ?_
     refine va_done (by kernel_rfl) ?_
     refine vc_then ?_
     refine vc_ret ?_
     exact vc_endR Tryz.results201 (resL_cons (res_t rfl) (resL_cons (res_a 5 rfl (cs := [_, _, _]) ag_45 rfl (Pts.visA rfl)) (resL_cons (res_t rfl) (resL_cons (res_t rfl) (resL_nil))))) _ (ent_pick [6, 6, 3, 3, 1] rfl) ⟨by rw [hf]; rfl, rfl⟩
    exact vo_nil
  ·skip
   have hf := fdOver_4 (b := fdRoom (q key ab)) c38b c40
   refine vc_guardF 40 rfl rfl rfl rfl ?_
   refine vc_guardF 40 rfl rfl rfl rfl ?_
   refine vc_guardF 40 rfl rfl rfl rfl ?_
   refine vc_guardT 38 rfl rfl ?_
   refine vp ?_
   refine vp ?_
   refine vc_nil ?_
   refine vc_then ?_
   refine vc_condF rfl ?_
   refine vc_skip ?_
   refine vc_then ?_
   refine vc_seq ?_
   refine vc_draw (by kernel_rfl) _ none [2] rfl ?_
   refine tpp 0 ?_
   refine tk 1 rfl (by exact y_loadA 0 rfl (cs := [_, _, _]) ag_45 rfl (Pts.visA rfl)) ?_
   refine tpp 2 ?_
   refine tpp 3 ?_
   refine tpp 4 ?_
   refine va_ready [5] (by kernel_rfl) rfl ?_
   refine vo_cons rfl (fun hC0 => ?_) ?_
   ·skip
    refine vc_storeP 5 rfl [_, _, _] [_, _, _] rfl rfl rfl sz_45 rfl rfl rfl ?_
    refine vc_nil ?_
    refine vc_then ?_
    refine va_kept hC0 [2] rfl ?_
    clear hC0
    refine tpp 6 ?_
    refine tpp 7 ?_
    refine va_done (by kernel_rfl) ?_
    refine vc_then ?_
    refine vc_ret ?_
    exact vc_endR Tryz.results201 (resL_cons (res_t rfl) (resL_cons (res_a 5 rfl (cs := [_, _, _]) ag_45 rfl (Pts.visA rfl)) (resL_cons (res_t rfl) (resL_cons (res_t rfl) (resL_nil))))) _ (ent_pick [6, 6, 3, 3, 1] rfl) ⟨by rw [hf]; rfl, rfl⟩
   exact vo_nil
end Go.Proofs.YtcpbibdbahfgaaaGreat
