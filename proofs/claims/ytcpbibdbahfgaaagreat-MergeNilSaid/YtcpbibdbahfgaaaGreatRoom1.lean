/-
 Rooms: made, and a chain laid.
-/
import Derived.Test.YtcpbibdbahfgaaaGreatRoomP
set_option linter.unusedVariables false
set_option linter.unusedSimpArgs false
set_option autoImplicit false
set_option maxHeartbeats 4000000
namespace Go.Proofs.YtcpbibdbahfgaaaGreat
open Go.Eng
namespace FRoom1
theorem fl_24_0 : Fld Tryz.prog 24 0 0 := ⟨_, _, 0, Tryz.underlying24, rfl, rfl, by kernel_rfl⟩
theorem one_22 : TyOne Tryz.prog 22 := ⟨⟨_, Tryz.underlying22, rfl⟩, by kernel_rfl⟩
theorem ca_93 : Callable Tryz.prog 93 := ⟨_, _, Tryz.func93, rfl, rfl⟩
theorem fl_24_1 : Fld Tryz.prog 24 1 1 := ⟨_, _, 0, Tryz.underlying24, rfl, rfl, by kernel_rfl⟩
theorem one_3 : TyOne Tryz.prog 3 := ⟨⟨_, Tryz.underlying3, rfl⟩, by kernel_rfl⟩
theorem ca_84 : Callable Tryz.prog 84 := ⟨_, _, Tryz.func84, rfl, rfl⟩
theorem fl_24_2 : Fld Tryz.prog 24 2 2 := ⟨_, _, 0, Tryz.underlying24, rfl, rfl, by kernel_rfl⟩
theorem fl_24_3 : Fld Tryz.prog 24 3 3 := ⟨_, _, 0, Tryz.underlying24, rfl, rfl, by kernel_rfl⟩
theorem ag_24 : TyAgg Tryz.prog 24 4 := ⟨⟨_, Tryz.underlying24, rfl⟩, by kernel_rfl⟩
theorem ca_30 : Callable Tryz.prog 30 := ⟨_, _, Tryz.func30, rfl, rfl⟩
theorem ca_114 : Callable Tryz.prog 114 := ⟨_, _, Tryz.func114, rfl, rfl⟩
theorem ca_101 : Callable Tryz.prog 101 := ⟨_, _, Tryz.func101, rfl, rfl⟩
theorem sz_22 : (Tryz.prog.info? 22).map (·.size) = some 1 := by kernel_rfl
theorem ca_115 : Callable Tryz.prog 115 := ⟨_, _, Tryz.func115, rfl, rfl⟩
theorem ze_132 : (Tryz.prog.info? 132).map (·.zero) = some (some (.agg #[.slice none 0 0, .int .i64 0, .int .i64 0, .int .i64 0, .pointer none, .pointer none, .slice none 0 0, .slice none 0 0, .int .i64 0, .int .i64 0, .int .i64 0])) := by kernel_rfl
theorem bu_132_0_1_2 (v0_0 v0_1 v0_2 v0_3 : Value) (v1 : Value) (v2 : Value) (h1 : v1.cells = #[v1]) (h2 : v2.cells = #[v2]) (w : World) : (Instr.build 132 #[(0, .agg #[v0_0, v0_1, v0_2, v0_3]), (1, v1), (2, v2)]).run Tryz.prog w = .ok (.agg #[v0_0, v0_1, v0_2, v0_3, v1, v2, .slice none 0 0, .slice none 0 0, .int .i64 0, .int .i64 0, .int .i64 0]) w := by
 have hz := @ze_132
 exact Go.Eng.run_build (pl := [(0, 4), (4, 1), (5, 1), (6, 1), (7, 1), (8, 1), (9, 1), (10, 1)]) hz Tryz.underlying132 (by kernel_rfl) rfl (by simp [Instr.fill, h1, h2, cells_agg]) w
theorem ca_67 : Callable Tryz.prog 67 := ⟨_, _, Tryz.func67, rfl, rfl⟩
theorem ep_28 : Tryz.prog.underlying 28 = some (.pointer (Tryz.prog.pointee 28)) := by kernel_rfl
theorem fl_132_2 : Fld Tryz.prog 132 2 5 := ⟨_, _, 0, Tryz.underlying132, rfl, rfl, by kernel_rfl⟩
theorem one_129 : TyOne Tryz.prog 129 := ⟨⟨_, Tryz.underlying129, rfl⟩, by kernel_rfl⟩
theorem ca_126 : Callable Tryz.prog 126 := ⟨_, _, Tryz.func126, rfl, rfl⟩
theorem fl_132_3 : Fld Tryz.prog 132 3 6 := ⟨_, _, 0, Tryz.underlying132, rfl, rfl, by kernel_rfl⟩
theorem one_130 : TyOne Tryz.prog 130 := ⟨⟨_, Tryz.underlying130, rfl⟩, by kernel_rfl⟩
theorem sl_130 : TySl Tryz.prog 130 138 1 := ⟨Tryz.underlying130, by kernel_rfl⟩
theorem one_138 : TyOne Tryz.prog 138 := ⟨⟨_, Tryz.underlying138, rfl⟩, by kernel_rfl⟩
theorem ca_76 : Callable Tryz.prog 76 := ⟨_, _, Tryz.func76, rfl, rfl⟩
theorem fl_132_7 : Fld Tryz.prog 132 7 10 := ⟨_, _, 0, Tryz.underlying132, rfl, rfl, by kernel_rfl⟩
theorem sz_3 : (Tryz.prog.info? 3).map (·.size) = some 1 := by kernel_rfl
theorem ca_120 : Callable Tryz.prog 120 := ⟨_, _, Tryz.func120, rfl, rfl⟩
theorem fl_132_5 : Fld Tryz.prog 132 5 8 := ⟨_, _, 0, Tryz.underlying132, rfl, rfl, by kernel_rfl⟩
theorem fl_132_6 : Fld Tryz.prog 132 6 9 := ⟨_, _, 0, Tryz.underlying132, rfl, rfl, by kernel_rfl⟩
theorem sz_138 : (Tryz.prog.info? 138).map (·.size) = some 1 := by kernel_rfl
theorem ca_129 : Callable Tryz.prog 129 := ⟨_, _, Tryz.func129, rfl, rfl⟩
theorem fl_132_4 : Fld Tryz.prog 132 4 7 := ⟨_, _, 0, Tryz.underlying132, rfl, rfl, by kernel_rfl⟩
theorem one_72 : TyOne Tryz.prog 72 := ⟨⟨_, Tryz.underlying72, rfl⟩, by kernel_rfl⟩
theorem ze_3 : (Tryz.prog.info? 3).map (·.zero) = some (some (.int .i64 0)) := by kernel_rfl
theorem bs_72_1 (v0 : Value) (h0 : v0.cells = #[v0]) (w : World) : (Instr.buildSlice 72 1 #[(0, v0)]).run Tryz.prog w = .ok (.slice (some ⟨w.heap.size, 0, none⟩) 1 1) { w with heap := w.heap.push (.cells #[v0] 3 (0, 0)) } :=
 Go.Eng.run_buildSlice Tryz.underlying72 sz_3 ze_3 (by decide) (by rw [show Array.range (1 * 1) = #[0] from by decide]; simp [Instr.fill, cells_agg, h0]) w
theorem el_72_eNat : TyEl Tryz.prog 72 eNat 8 := ⟨Tryz.underlying72, .int .i64 0, by kernel_rfl, rfl⟩
theorem sz_72 : (Tryz.prog.info? 72).map (·.size) = some 1 := by kernel_rfl
theorem sl_72 : TySl Tryz.prog 72 3 1 := ⟨Tryz.underlying72, by kernel_rfl⟩
theorem ca_130 : Callable Tryz.prog 130 := ⟨_, _, Tryz.func130, rfl, rfl⟩
theorem ze_138 : (Tryz.prog.info? 138).map (·.zero) = some (some (.slice none 0 0)) := by kernel_rfl
theorem bs_130_1 (v0 : Value) (h0 : v0.cells = #[v0]) (w : World) : (Instr.buildSlice 130 1 #[(0, v0)]).run Tryz.prog w = .ok (.slice (some ⟨w.heap.size, 0, none⟩) 1 1) { w with heap := w.heap.push (.cells #[v0] 138 (0, 0)) } :=
 Go.Eng.run_buildSlice Tryz.underlying130 sz_138 ze_138 (by decide) (by rw [show Array.range (1 * 1) = #[0] from by decide]; simp [Instr.fill, cells_agg, h0]) w
theorem el_130_eVS : TyEl Tryz.prog 130 eVS 24 := ⟨Tryz.underlying130, .slice none 0 0, by kernel_rfl, rfl⟩
theorem sz_130 : (Tryz.prog.info? 130).map (·.size) = some 1 := by kernel_rfl
end FRoom1
open FRoom1
def setRight (label : List Int) (ring quota most : Int) : Bool := labelRight label && (decide (1 ≤ ring) && decide (ring ≤ 16)) && (decide (0 ≤ quota) && decide (quota ≤ 1048576)) && (decide (1 ≤ most) && decide (most ≤ 1073741824))
def X0 (label : List Int) (ring quota most seq : Int) : RmX := ⟨label, ring, quota, most, ⟨ring, seq, seq, []⟩, []⟩
theorem X0_ok {label : List Int} {ring quota most seq : Int} (h : setRight label ring quota most = true) (h1 : 0 ≤ seq) (h2 : seq ≤ most) : (X0 label ring quota most seq).ok := by
 simp only [setRight, Bool.and_eq_true, decide_eq_true_eq] at h
 obtain ⟨⟨⟨a, b1, b2⟩, c1, c2⟩, d1, d2⟩ := h
 exact ⟨a, ⟨b1, b2⟩, ⟨c1, c2⟩, ⟨d1, d2⟩, ⟨b1, b2, h1, Int.le_refl _, by simp only [X0]; omega, by simp only [X0, List.length_nil]; omega, by simp [X0], trivial⟩, rfl, h2, by simp [X0], by simp [X0], trivial, by simp [X0]⟩
def verTup (b : Nat) : Value := .tuple #[.pointer (some ⟨b, 0, none⟩), .int .i64 0]
theorem sum_lives_put {M : Mp} {k : ByteArray} {old : List Ver} (h : Eng.look M k = some old) (l : List Ver) : liveM (put1 M k l) = liveM M - lives k old + lives k l := sum_put1 _ h l
theorem sum_count_put {M : Mp} {k : ByteArray} {old : List Ver} (h : Eng.look M k = some old) (l : List Ver) : countM (put1 M k l) = countM M - min (lives k old) 1 + min (lives k l) 1 := sum_put1 _ h l
theorem sum_vers_put {M : Mp} {k : ByteArray} {old : List Ver} (h : Eng.look M k = some old) (l : List Ver) : versM (put1 M k l) = versM M - (old.length : Int) + (l.length : Int) := sum_put1 _ h l
theorem sum_lives_dlt {M : Mp} {k : ByteArray} {old : List Ver} (h : Eng.look M k = some old) : liveM (dlt M k) = liveM M - lives k old := sum_dlt _ h
theorem sum_count_dlt {M : Mp} {k : ByteArray} {old : List Ver} (h : Eng.look M k = some old) : countM (dlt M k) = countM M - min (lives k old) 1 := sum_dlt _ h
theorem sum_vers_dlt {M : Mp} {k : ByteArray} {old : List Ver} (h : Eng.look M k = some old) : versM (dlt M k) = versM M - (old.length : Int) := sum_dlt _ h
theorem sum_lives_ins (M : Mp) (k : ByteArray) (l : List Ver) : liveM (ins M k l) = liveM M + lives k l := sum_ins _ M k l
theorem sum_count_ins (M : Mp) (k : ByteArray) (l : List Ver) : countM (ins M k l) = countM M + min (lives k l) 1 := sum_ins _ M k l
theorem sum_vers_ins (M : Mp) (k : ByteArray) (l : List Ver) : versM (ins M k l) = versM M + (l.length : Int) := sum_ins _ M k l
theorem lives_nil (k : ByteArray) : lives k [] = 0 := by simp [lives, cWeight, verLast, chainRight, chainFrom]
theorem rright_spec {A : HP} {h : SH} {label : List Int} (hv : Vis A (Rd eU64 h label)) (ring quota most : Int) : Does Tryz.prog 30 [.agg #[h.v, .int .i64 ring, .int .i64 quota, .int .i64 most]] [A] (fun v l => v = .bool (setRight label ring quota most) ∧ l = [A]) := by
 refine spec_of Tryz.func30 rfl Tryz.ntmps30 Tryz.results30 _ (by simp) fun ι F => ?_
 refine vc_seq ?_
 refine vc_region ?_
 refine vc_box [_, _, _, _] rfl rfl rfl (fun b1 => ?_)
 refine vp ?_
 refine vc_nil ?_
 refine vc_then ?_
 refine vc_seq ?_
 refine vc_region ?_
 refine vc_y (y_fieldP fl_24_0 0 rfl rfl) rfl ?_
 refine vc_y (y_load1 0 rfl one_22 rfl (Pts.vis rfl)) rfl ?_
 refine vc_callv ca_93 (us := []) (vs := []) rfl [_] rfl [1] rfl (lright_spec hv) rfl ?_
 rintro _ _ ⟨rfl, rfl⟩
 refine vp ?_
 first | refine vc_splitP 6 rfl (fun c6 => ?_) (fun c6 => ?_) | refine vc_splitN 6 rfl (fun c6 => ?_) (fun c6 => ?_) | refine vc_split 6 rfl (fun c6 => ?_) (fun c6 => ?_)
 ·skip
  refine vc_guardT 6 rfl rfl ?_
  refine vc_y (y_fieldP fl_24_1 1 rfl rfl) rfl ?_
  refine vc_guardT 6 rfl rfl ?_
  refine vc_y (y_load1 1 rfl one_3 rfl (Pts.vis rfl)) rfl ?_
  refine vc_guardT 6 rfl rfl ?_
  refine vc_callv ca_84 (us := []) (vs := []) rfl [_, _, _] rfl [] rfl (within_spec _ _ _) rfl ?_
  rintro _ _ ⟨rfl, rfl⟩
  refine vp ?_
  refine vp ?_
  first | refine vc_splitP 11 rfl (fun c11 => ?_) (fun c11 => ?_) | refine vc_splitN 11 rfl (fun c11 => ?_) (fun c11 => ?_) | refine vc_split 11 rfl (fun c11 => ?_) (fun c11 => ?_)
  ·skip
   refine vc_guardT 11 rfl rfl ?_
   refine vc_y (y_fieldP fl_24_2 2 rfl rfl) rfl ?_
   refine vc_guardT 11 rfl rfl ?_
   refine vc_y (y_load1 1 rfl one_3 rfl (Pts.vis rfl)) rfl ?_
   refine vc_guardT 11 rfl rfl ?_
   refine vc_callv ca_84 (us := []) (vs := []) rfl [_, _, _] rfl [] rfl (within_spec _ _ _) rfl ?_
   rintro _ _ ⟨rfl, rfl⟩
   refine vp ?_
   refine vp ?_
   first | refine vc_splitP 16 rfl (fun c16 => ?_) (fun c16 => ?_) | refine vc_splitN 16 rfl (fun c16 => ?_) (fun c16 => ?_) | refine vc_split 16 rfl (fun c16 => ?_) (fun c16 => ?_)
   ·skip
    refine vc_guardT 16 rfl rfl ?_
    refine vc_y (y_fieldP fl_24_3 3 rfl rfl) rfl ?_
    refine vc_guardT 16 rfl rfl ?_
    refine vc_y (y_load1 1 rfl one_3 rfl (Pts.vis rfl)) rfl ?_
    refine vc_guardT 16 rfl rfl ?_
    refine vc_callv ca_84 (us := []) (vs := []) rfl [_, _, _] rfl [] rfl (within_spec _ _ _) rfl ?_
    rintro _ _ ⟨rfl, rfl⟩
    refine vp ?_
    refine vp ?_
    refine vc_nil ?_
    refine vc_then ?_
    refine vc_ret ?_
    exact vc_end1 Tryz.results30 rfl _ (ent_pick [0] rfl) ⟨by simp [setRight, *], rfl⟩
   ·skip
    refine vc_guardF 16 rfl rfl rfl rfl ?_
    refine vc_guardF 16 rfl rfl rfl rfl ?_
    refine vc_guardF 16 rfl rfl rfl rfl ?_
    refine vp ?_
    refine vp ?_
    refine vc_nil ?_
    refine vc_then ?_
    refine vc_ret ?_
    exact vc_end1 Tryz.results30 rfl _ (ent_pick [0] rfl) ⟨by simp [setRight, *], rfl⟩
  ·skip
   refine vc_guardF 11 rfl rfl rfl rfl ?_
   refine vc_guardF 11 rfl rfl rfl rfl ?_
   refine vc_guardF 11 rfl rfl rfl rfl ?_
   refine vp ?_
   refine vp ?_
   refine vc_guardF 16 rfl rfl rfl rfl ?_
   refine vc_guardF 16 rfl rfl rfl rfl ?_
   refine vc_guardF 16 rfl rfl rfl rfl ?_
   refine vp ?_
   refine vp ?_
   refine vc_nil ?_
   refine vc_then ?_
   refine vc_ret ?_
   exact vc_end1 Tryz.results30 rfl _ (ent_pick [0] rfl) ⟨by simp [setRight, *], rfl⟩
 ·skip
  refine vc_guardF 6 rfl rfl rfl rfl ?_
  refine vc_guardF 6 rfl rfl rfl rfl ?_
  refine vc_guardF 6 rfl rfl rfl rfl ?_
  refine vp ?_
  refine vp ?_
  refine vc_guardF 11 rfl rfl rfl rfl ?_
  refine vc_guardF 11 rfl rfl rfl rfl ?_
  refine vc_guardF 11 rfl rfl rfl rfl ?_
  refine vp ?_
  refine vp ?_
  refine vc_guardF 16 rfl rfl rfl rfl ?_
  refine vc_guardF 16 rfl rfl rfl rfl ?_
  refine vc_guardF 16 rfl rfl rfl rfl ?_
  refine vp ?_
  refine vp ?_
  refine vc_nil ?_
  refine vc_then ?_
  refine vc_ret ?_
  exact vc_end1 Tryz.results30 rfl _ (ent_pick [0] rfl) ⟨by simp [setRight, *], rfl⟩
theorem open_ok {A : HP} {h : SH} {label : List Int} (hv : Vis A (Rd eU64 h label)) (ring quota most : Int) {seq : Int} (hr : setRight label ring quota most = true) (h1 : 0 ≤ seq) (h2 : seq ≤ most) : Does Tryz.prog 67 [.agg #[h.v, .int .i64 ring, .int .i64 quota, .int .i64 most], .int .i64 seq] [A] (fun v l => ∃ b, v = verTup b ∧ l = [RoomC b (X0 label ring quota most seq), A]) := by
 refine spec_of Tryz.func67 rfl Tryz.ntmps67 Tryz.results67 _ (by simp) fun ι F => ?_
 have ok := X0_ok hr h1 h2
 refine vc_seq ?_
 refine vc_region ?_
 refine vc_box [_, _, _, _] rfl rfl rfl (fun b2 => ?_)
 refine vp ?_
 refine vp ?_
 refine vc_nil ?_
 refine vc_then ?_
 refine vc_seq ?_
 refine vc_seq ?_
 refine vc_region ?_
 refine vc_y (y_loadA 0 rfl (cs := [_, _, _, _]) ag_24 rfl (Pts.visA rfl)) rfl ?_
 refine vc_callv ca_30 (us := []) (vs := []) rfl [_] rfl [1] rfl (Does.re (rright_spec hv ring quota most) (show _ = Value.bool true by rw [hr])) rfl ?_
 rintro _ _ ⟨rfl, rfl⟩
 refine vp ?_
 refine vp ?_
 refine vc_guardT 11 rfl rfl ?_
 refine vp ?_
 refine vc_guardT 11 rfl rfl ?_
 refine vc_y (y_fieldP fl_24_3 3 rfl rfl) rfl ?_
 refine vc_guardT 11 rfl rfl ?_
 refine vc_y (y_load1 1 rfl one_3 rfl (Pts.vis rfl)) rfl ?_
 refine vc_guardT 11 rfl rfl ?_
 refine vc_callv ca_84 (us := []) (vs := []) rfl [_, _, _] rfl [] rfl (within_spec _ _ _) rfl ?_
 rintro _ _ ⟨rfl, rfl⟩
 refine vc_guardT 11 rfl rfl ?_
 refine vp ?_
 refine vp ?_
 refine vc_nil ?_
 refine vc_then ?_
 first | refine vc_condP rfl (fun c17 => ?_) (fun c17 => ?_) | refine vc_condN rfl (fun c17 => ?_) (fun c17 => ?_) | refine vc_cond rfl (fun c17 => ?_) (fun c17 => ?_)
 ·skip
  simp [h1, h2] at c17
 ·skip
  refine vc_skip ?_
  refine vc_then ?_
  refine vc_seq ?_
  refine vc_region ?_
  refine vc_y (y_fieldP fl_24_1 1 rfl rfl) rfl ?_
  refine vc_y (y_load1 1 rfl one_3 rfl (Pts.vis rfl)) rfl ?_
  refine vp ?_
  refine vc_callv ca_114 (us := []) (vs := []) rfl [_, _] rfl [] rfl (ring_new ok.r1 ⟨h1, by have := ok.mo; simp only [X0] at this; omega⟩) rfl ?_
  rintro _ _ ⟨bR, rfl, rfl⟩
  iterate 5 refine vp ?_
  refine vc_nil ?_
  refine vc_then ?_
  refine vc_seq ?_
  refine vc_seq ?_
  refine vc_region ?_
  refine vp ?_
  refine vp ?_
  refine vc_nil ?_
  refine vc_then ?_
  first | refine vc_condP rfl (fun c26 => ?_) (fun c26 => ?_) | refine vc_condN rfl (fun c26 => ?_) (fun c26 => ?_) | refine vc_cond rfl (fun c26 => ?_) (fun c26 => ?_)
  ·skip
   simp at c26
  ·skip
   refine vc_skip ?_
   refine vc_then ?_
   refine vc_seq ?_
   refine vc_region ?_
   refine vc_y (y_fieldP fl_24_0 0 rfl rfl) rfl ?_
   refine vc_y (y_load1 2 rfl one_22 rfl (Pts.vis rfl)) rfl ?_
   refine vc_callv ca_101 (us := []) (vs := []) rfl [_] rfl [1] rfl (cloneU_spec hv (Nat.le_trans (labelRight_len ok.lab) (by decide))) rfl ?_
   rintro _ _ ⟨g, rfl, rfl⟩
   refine vc_y (y_fieldP fl_24_0 0 rfl rfl) rfl ?_
   refine vc_storeP 3 rfl [_] [_, _, _, _] rfl rfl rfl sz_22 rfl rfl rfl ?_
   refine vc_nil ?_
   refine vc_then ?_
   refine vc_seq ?_
   refine vc_draw (by kernel_rfl) _ none [3] rfl ?_
   refine tk 0 rfl (by exact y_loadA 0 rfl (cs := [_, _, _, _]) ag_24 rfl (Pts.visA rfl)) ?_
   refine tpp 1 ?_
   refine va_ready [2] (by kernel_rfl) rfl ?_
   refine vo_cons rfl (fun hC0 => ?_) ?_
   ·skip
    refine vc_callv ca_115 (us := []) (vs := []) rfl [] rfl [] rfl (tree_new) rfl ?_
    rintro _ _ ⟨bK, rfl, rfl⟩
    refine vc_nil ?_
    refine vc_then ?_
    refine va_kept hC0 [4] rfl ?_
    clear hC0
    refine tp 3 rfl (by exact y_build [(0, _), (1, _), (2, _)] [_, _, _, _, _, _, _, _, _, _, _] rfl (bu_132_0_1_2 _ _ _ _ _ _ rfl rfl)) ?_
    refine va_ready [4] (by kernel_rfl) rfl ?_
    refine vo_cons rfl (fun hC0 => ?_) ?_
    ·skip
     refine vc_box [_, _, _, _, _, _, _, _, _, _, _] rfl rfl rfl (fun b36 => ?_)
     refine vc_nil ?_
     refine vc_then ?_
     refine va_kept hC0 [5] rfl ?_
     clear hC0
     refine tpp 5 ?_
     refine tpp 6 ?_
     refine va_done (by kernel_rfl) ?_
     refine vc_then ?_
     refine vc_ret ?_
     exact vc_end2 Tryz.results67 rfl rfl _ (ent_at [0, 1, 2, 0, 0] rfl ((ent_cons (ent_cons (ent_cons (ent_cons (sl_new.trans (ent_cons (sl_new.trans (ent_cons (Ent.empL.trans (Ent.sep AllRo.nil Ent.rfl)))))))))).trans (ent_RmO (X := X0 label ring quota most seq) (I := ⟨bR, bK, g, nilS, nilS, [], [], [], []⟩) ⟨rfl, by simp, by simp, rfl, by simp⟩))) ⟨b36, rfl, rfl⟩
    exact vo_nil
   exact vo_nil
theorem open_bad {A : HP} {h : SH} {label : List Int} (hv : Vis A (Rd eU64 h label)) (ring quota most : Int) {seq : Int} (hr : setRight label ring quota most = false ∨ seq < 0 ∨ most < seq) : Does Tryz.prog 67 [.agg #[h.v, .int .i64 ring, .int .i64 quota, .int .i64 most], .int .i64 seq] [A] (fun v l => v = .tuple #[.pointer none, .int .i64 1] ∧ l = [A]) := by
 refine spec_of Tryz.func67 rfl Tryz.ntmps67 Tryz.results67 _ (by simp) fun ι F => ?_
 refine vc_seq ?_
 refine vc_region ?_
 refine vc_box [_, _, _, _] rfl rfl rfl (fun b2 => ?_)
 refine vp ?_
 refine vp ?_
 refine vc_nil ?_
 refine vc_then ?_
 refine vc_seq ?_
 refine vc_seq ?_
 refine vc_region ?_
 refine vc_y (y_loadA 0 rfl (cs := [_, _, _, _]) ag_24 rfl (Pts.visA rfl)) rfl ?_
 refine vc_callv ca_30 (us := []) (vs := []) rfl [_] rfl [1] rfl (rright_spec hv ring quota most) rfl ?_
 rintro _ _ ⟨rfl, rfl⟩
 refine vp ?_
 refine vp ?_
 first | refine vc_splitP 11 rfl (fun c11 => ?_) (fun c11 => ?_) | refine vc_splitN 11 rfl (fun c11 => ?_) (fun c11 => ?_) | refine vc_split 11 rfl (fun c11 => ?_) (fun c11 => ?_)
 ·skip
  refine vc_guardF 11 rfl rfl rfl rfl ?_
  refine vc_guardF 11 rfl rfl rfl rfl ?_
  refine vc_guardF 11 rfl rfl rfl rfl ?_
  refine vc_guardF 11 rfl rfl rfl rfl ?_
  refine vc_guardF 11 rfl rfl rfl rfl ?_
  refine vp ?_
  refine vc_nil ?_
  refine vc_then ?_
  refine vc_condT rfl ?_
  refine vc_seq ?_
  refine vc_region ?_
  refine vp ?_
  refine vp ?_
  refine vc_nil ?_
  refine vc_then ?_
  refine vc_ret ?_
  refine vc_thenRet ?_
  exact vc_end2 Tryz.results67 rfl rfl _ (ent_pick [0] rfl) ⟨rfl, rfl⟩
 ·skip
  refine vc_guardT 11 rfl rfl ?_
  refine vp ?_
  refine vc_guardT 11 rfl rfl ?_
  refine vc_y (y_fieldP fl_24_3 3 rfl rfl) rfl ?_
  refine vc_guardT 11 rfl rfl ?_
  refine vc_y (y_load1 1 rfl one_3 rfl (Pts.vis rfl)) rfl ?_
  refine vc_guardT 11 rfl rfl ?_
  refine vc_callv ca_84 (us := []) (vs := []) rfl [_, _, _] rfl [] rfl (within_spec _ _ _) rfl ?_
  rintro _ _ ⟨rfl, rfl⟩
  refine vc_guardT 11 rfl rfl ?_
  refine vp ?_
  refine vp ?_
  refine vc_nil ?_
  refine vc_then ?_
  first | refine vc_condP rfl (fun c17 => ?_) (fun c17 => ?_) | refine vc_condN rfl (fun c17 => ?_) (fun c17 => ?_) | refine vc_cond rfl (fun c17 => ?_) (fun c17 => ?_)
  ·skip
   refine vc_seq ?_
   refine vc_region ?_
   refine vp ?_
   refine vp ?_
   refine vc_nil ?_
   refine vc_then ?_
   refine vc_ret ?_
   refine vc_thenRet ?_
   exact vc_end2 Tryz.results67 rfl rfl _ (ent_pick [0] rfl) ⟨rfl, rfl⟩
  ·skip
   exfalso
   simp at c11 c17
   rcases hr with h0 | h0 | h0
   ·rw [h0] at c11; cases c11
   ·omega
   ·omega
theorem new_ok {A : HP} {h : SH} {label : List Int} (hv : Vis A (Rd eU64 h label)) (ring quota most : Int) (hr : setRight label ring quota most = true) : Does Tryz.prog 11 [.agg #[h.v, .int .i64 ring, .int .i64 quota, .int .i64 most]] [A] (fun v l => ∃ b, v = verTup b ∧ l = [RoomC b (X0 label ring quota most 0), A]) := by
 refine spec_of Tryz.func11 rfl Tryz.ntmps11 Tryz.results11 _ (by simp) fun ι F => ?_
 refine vc_seq ?_
 refine vc_region ?_
 refine vc_box [_, _, _, _] rfl rfl rfl (fun b1 => ?_)
 refine vp ?_
 refine vp ?_
 refine vc_nil ?_
 refine vc_then ?_
 refine vc_seq ?_
 refine vc_region ?_
 refine vc_y (y_loadA 0 rfl (cs := [_, _, _, _]) ag_24 rfl (Pts.visA rfl)) rfl ?_
 refine vc_callv ca_67 (us := []) (vs := []) rfl [_, _] rfl [1] rfl (open_ok hv ring quota most hr (Int.le_refl 0) (by have := X0_ok hr (Int.le_refl 0) (by simp only [setRight, Bool.and_eq_true, decide_eq_true_eq] at hr; omega); have := this.mo; simp only [X0] at this; omega)) rfl ?_
 rintro _ _ ⟨b, rfl, rfl⟩
 iterate 4 refine vp ?_
 refine vc_nil ?_
 refine vc_then ?_
 refine vc_ret ?_
 exact vc_end2 Tryz.results11 rfl rfl _ (ent_pick [0, 0] rfl) ⟨b, rfl, rfl⟩
theorem new_bad {A : HP} {h : SH} {label : List Int} (hv : Vis A (Rd eU64 h label)) (ring quota most : Int) (hr : setRight label ring quota most = false) : Does Tryz.prog 11 [.agg #[h.v, .int .i64 ring, .int .i64 quota, .int .i64 most]] [A] (fun v l => v = .tuple #[.pointer none, .int .i64 1] ∧ l = [A]) := by
 refine spec_of Tryz.func11 rfl Tryz.ntmps11 Tryz.results11 _ (by simp) fun ι F => ?_
 refine vc_seq ?_
 refine vc_region ?_
 refine vc_box [_, _, _, _] rfl rfl rfl (fun b1 => ?_)
 refine vp ?_
 refine vp ?_
 refine vc_nil ?_
 refine vc_then ?_
 refine vc_seq ?_
 refine vc_region ?_
 refine vc_y (y_loadA 0 rfl (cs := [_, _, _, _]) ag_24 rfl (Pts.visA rfl)) rfl ?_
 refine vc_callv ca_67 (us := []) (vs := []) rfl [_, _] rfl [1] rfl (open_bad hv ring quota most (.inl hr)) rfl ?_
 rintro _ _ ⟨rfl, rfl⟩
 iterate 4 refine vp ?_
 refine vc_nil ?_
 refine vc_then ?_
 refine vc_ret ?_
 exact vc_end2 Tryz.results11 rfl rfl _ (ent_pick [0] rfl) ⟨rfl, rfl⟩
theorem rchain0 {b : Nat} {X : RmX} {I : RmI} (rel : RmRel X I) (key : ByteArray) : Does Tryz.prog 76 [.pointer (some ⟨b, 0, none⟩), .string key] (RmO b X I) (fun v l => v = (chainH I key).v ∧ l = RmO b X I) := by
 refine spec_of Tryz.func76 rfl Tryz.ntmps76 Tryz.results76 _ (by simp) fun ι F => ?_
 refine vc_seq ?_
 refine vc_region ?_
 refine vp ?_
 refine vc_nil ?_
 refine vc_then ?_
 refine vc_seq ?_
 refine vc_seq ?_
 refine vc_region ?_
 refine vp ?_
 refine vc_y (y_eqNil ep_28 rfl rfl) rfl ?_
 refine vc_nil ?_
 refine vc_then ?_
 refine vc_condF rfl ?_
 refine vc_skip ?_
 refine vc_then ?_
 refine vc_seq ?_
 refine vc_region ?_
 refine vp ?_
 refine vp ?_
 refine vc_y (y_fieldP fl_132_2 5 rfl rfl) rfl ?_
 refine vc_y (y_load1 0 rfl one_129 rfl (Pts.vis rfl)) rfl ?_
 refine vp ?_
 refine vc_callv ca_126 (us := []) (vs := []) rfl [_, _] rfl [3] rfl (tree_get key) rfl ?_
 rintro _ _ ⟨rfl, rfl⟩
 iterate 5 refine vp ?_
 refine vc_nil ?_
 refine vc_then ?_
 refine vc_seq ?_
 refine vc_seq ?_
 refine vc_region ?_
 refine vp ?_
 refine vp ?_
 refine vc_nil ?_
 refine vc_then ?_
 first | refine vc_condP rfl (fun c19 => ?_) (fun c19 => ?_) | refine vc_condN rfl (fun c19 => ?_) (fun c19 => ?_) | refine vc_cond rfl (fun c19 => ?_) (fun c19 => ?_)
 ·skip
  have hn : Eng.look I.t key = none := by simpa using c19
  refine vc_seq ?_
  refine vc_region ?_
  refine vp ?_
  refine vc_nil ?_
  refine vc_then ?_
  refine vc_ret ?_
  refine vc_thenRet ?_
  exact vc_end1 Tryz.results76 rfl _ (ent_pick [1, 1, 1, 0, 0, 0, 0] rfl) ⟨by simp [chainH, hn]; rfl, rfl⟩
 ·skip
  obtain ⟨i, hi⟩ : ∃ i, Eng.look I.t key = some i := by
   cases h0 : Eng.look I.t key with
   | none => simp [h0] at c19
   | some i => exact ⟨i, rfl⟩
  obtain ⟨i1, i2⟩ := rel.idx hi
  have i3 : i.toNat < I.hdrs.length := by rw [rel.hl]; exact i2
  refine vc_skip ?_
  refine vc_then ?_
  refine vc_seq ?_
  refine vc_region ?_
  refine vp ?_
  refine vp ?_
  refine vc_y (y_fieldP fl_132_3 6 rfl rfl) rfl ?_
  refine vc_y (y_load1 1 rfl one_130 rfl (Pts.vis rfl)) rfl ?_
  refine vp ?_
  refine vc_y (y_elem 4 rfl (Sl.vis) i.toNat (by rw [hi]; exact (Int.toNat_of_nonneg i1).symm) i3 sl_130 rfl rfl) rfl ?_
  refine vc_y (y_load1 4 rfl one_138 rfl (Rd.vis1 (Sl.vis) (List.getElem?_eq_getElem i3) rfl)) rfl ?_
  refine vp ?_
  refine vc_nil ?_
  refine vc_then ?_
  refine vc_ret ?_
  exact vc_end1 Tryz.results76 rfl _ (ent_pick [1, 1, 1, 0, 0, 0, 0] rfl) ⟨by simp only [chainH, hi]; rw [List.getD_eq_getElem?_getD, List.getElem?_eq_getElem i3]; rfl, rfl⟩
theorem lay_put {b : Nat} {X : RmX} {I : RmI} (rel : RmRel X I) (ok : X.ok) {key : ByteArray} (hk : key.size ≤ 32) {h : SH} {xs : List Ver} (hxb : xs.length ≤ 1000000) (hfk : fnd (ks X.M) key = true) (hne : xs ≠ []) :
  Does Tryz.prog 78 [.pointer (some ⟨b, 0, none⟩), .string key, h.v] (RmO b X I ++ [RoSl eVer h xs]) (fun v l => v = .tuple #[] ∧ l = [RoomC b ⟨X.label, X.ring, X.quota, X.most, X.R, Eng.put1 X.M key xs⟩]) := by
 refine spec_of Tryz.func78 rfl Tryz.ntmps78 Tryz.results78 _ (by simp) fun ι F => ?_
 have hvo := rel.vis key
 have hfb := rel.freeLe
 have hch := ok.chain key
 have hlv := ok.live
 have hcn := ok.count
 have hvs := ok.vers
 have hml := ok.le
 refine vc_see 7 rfl (RoSl.vis.imp fun w r => r.len) (fun hlen => ?_)
 refine vc_see 6 rfl (hvo.imp fun w r => r.len) (fun hold => ?_)
 have hl1 := lives_le (chainM X.M key) hk
 have hl2 := lives_le xs hk
 obtain ⟨i, hi⟩ : ∃ i : Nat, Eng.look I.t key = some (i : Int) := by
  have h0 := hfk
  rw [rel.ks] at h0
  obtain ⟨v, A, B, e1, _⟩ := fnd_split h0
  obtain ⟨i1, _⟩ := rel.idx e1
  exact ⟨v.toNat, by rw [e1, Int.toNat_of_nonneg i1]⟩
 have i2 : i < I.cs.length := (rel.idx hi).2
 have i3 : i < I.hdrs.length := by rw [rel.hl]; exact i2
 have hlk : Eng.look X.M key = some (chainM X.M key) := by
  unfold chainM; rw [rel.look key, hi]; rfl
 have hgv : lookV I.t key = .tuple #[.int .i64 (i : Int), .bool true] := by simp [lookV, hi]
 have hs1 := sum_lives_put hlk xs
 have hs2 := sum_count_put hlk xs
 have hs3 := sum_vers_put hlk xs
 refine vc_seq ?_
 refine vc_region ?_
 refine vp ?_
 refine vp ?_
 refine vc_callv ca_76 (us := []) (vs := []) rfl [_, _] rfl [0, 0, 0, 0, 0, 0, 0] rfl (rchain0 rel key) rfl ?_
 rintro _ _ ⟨rfl, rfl⟩
 refine vp ?_
 refine vc_nil ?_
 refine vc_then ?_
 refine vc_seq ?_
 refine vc_region ?_
 refine vp ?_
 refine vp ?_
 refine vc_y (y_fieldP fl_132_7 10 rfl rfl) rfl ?_
 refine vc_y (y_load1 0 rfl one_3 rfl (Pts.vis rfl)) rfl ?_
 refine vp ?_
 refine vc_y (y_len Tryz.underlying138 rfl hlen) rfl ?_
 refine vp ?_
 refine vc_y (y_len Tryz.underlying138 rfl hold) rfl ?_
 first | refine vc_y (y_arith _ rfl (wrap64 (by omega) (by omega))) rfl ?_ | refine vp ?_
 refine vc_y (y_arith (versM (Eng.put1 X.M key xs)) rfl (by rw [wrap64 (by omega) (by omega)]; omega)) rfl ?_
 refine vp ?_
 refine vc_y (y_fieldP fl_132_7 10 rfl rfl) rfl ?_
 refine vc_storeP 0 rfl [_] [_, _, _, _, _, _, _, _, _, _, _] rfl rfl rfl sz_3 rfl rfl rfl ?_
 refine vc_nil ?_
 refine vc_then ?_
 refine vc_seq ?_
 refine vc_region ?_
 refine vp ?_
 refine vp ?_
 refine vc_callv ca_120 (us := []) (vs := []) rfl [_, _] rfl [6] rfl (lives_spec hvo (by omega) (by omega)) rfl ?_
 rintro _ _ ⟨rfl, rfl⟩
 refine vp ?_
 refine vp ?_
 refine vc_callv ca_120 (us := []) (vs := []) rfl [_, _] rfl [7] rfl (lives_spec RoSl.vis hxb (by omega)) rfl ?_
 rintro _ _ ⟨rfl, rfl⟩
 refine vp ?_
 refine vp ?_
 refine vc_nil ?_
 refine vc_then ?_
 refine vc_seq ?_
 refine vc_region ?_
 refine vp ?_
 refine vp ?_
 refine vc_y (y_fieldP fl_132_5 8 rfl rfl) rfl ?_
 refine vc_y (y_load1 2 rfl one_3 rfl (Pts.vis rfl)) rfl ?_
 refine vp ?_
 refine vp ?_
 first | refine vc_y (y_arith _ rfl (wrap64 (by omega) (by omega))) rfl ?_ | refine vp ?_
 refine vc_y (y_arith (liveM (Eng.put1 X.M key xs)) rfl (by rw [wrap64 (by omega) (by omega)]; omega)) rfl ?_
 refine vp ?_
 refine vc_y (y_fieldP fl_132_5 8 rfl rfl) rfl ?_
 refine vc_storeP 2 rfl [_] [_, _, _, _, _, _, _, _, _, _, _] rfl rfl rfl sz_3 rfl rfl rfl ?_
 refine vc_nil ?_
 refine vc_then ?_
 refine vc_seq ?_
 refine vc_region ?_
 refine vp ?_
 refine vp ?_
 refine vc_y (y_fieldP fl_132_6 9 rfl rfl) rfl ?_
 refine vc_y (y_load1 2 rfl one_3 rfl (Pts.vis rfl)) rfl ?_
 refine vp ?_
 refine vc_y (y_min2 (min (lives key xs) 1) rfl rfl (by split <;> omega)) rfl ?_
 refine vp ?_
 refine vc_y (y_min2 (min (lives key (chainM X.M key)) 1) rfl rfl (by split <;> omega)) rfl ?_
 first | refine vc_y (y_arith _ rfl (wrap64 (by omega) (by omega))) rfl ?_ | refine vp ?_
 refine vc_y (y_arith (countM (Eng.put1 X.M key xs)) rfl (by rw [wrap64 (by omega) (by omega)]; omega)) rfl ?_
 refine vp ?_
 refine vc_y (y_fieldP fl_132_6 9 rfl rfl) rfl ?_
 refine vc_storeP 2 rfl [_] [_, _, _, _, _, _, _, _, _, _, _] rfl rfl rfl sz_3 rfl rfl rfl ?_
 refine vc_nil ?_
 refine vc_then ?_
 refine vc_seq ?_
 refine vc_region ?_
 refine vp ?_
 refine vp ?_
 refine vc_y (y_fieldP fl_132_2 5 rfl rfl) rfl ?_
 refine vc_y (y_load1 2 rfl one_129 rfl (Pts.vis rfl)) rfl ?_
 refine vp ?_
 refine vc_callv ca_126 (us := []) (vs := []) rfl [_, _] rfl [5] rfl (Does.re (tree_get key) hgv) rfl ?_
 rintro _ _ ⟨rfl, rfl⟩
 iterate 5 refine vp ?_
 refine vc_nil ?_
 refine vc_then ?_
 refine vc_block ?_
 refine vc_seq ?_
 refine vc_region ?_
 refine vp ?_
 refine vp ?_
 refine vc_guardT 65 rfl rfl ?_
 refine vp ?_
 refine vc_guardT 65 rfl rfl ?_
 refine vc_y (y_len Tryz.underlying138 rfl hlen) rfl ?_
 refine vc_guardT 65 rfl rfl ?_
 iterate 3 refine vp ?_
 refine vc_nil ?_
 refine vc_then ?_
 first | refine vc_condP rfl (fun c63 => ?_) (fun c63 => ?_) | refine vc_condN rfl (fun c63 => ?_) (fun c63 => ?_) | refine vc_cond rfl (fun c63 => ?_) (fun c63 => ?_)
 ·skip
  exact absurd (List.length_eq_zero_iff.1 (by omega)) hne
 ·skip
  refine vc_seq ?_
  refine vc_region ?_
  refine vp ?_
  refine vp ?_
  refine vc_nil ?_
  refine vc_then ?_
  refine vc_condT rfl ?_
  refine vc_region ?_
  refine vp ?_
  refine vp ?_
  refine vc_y (y_fieldP fl_132_3 6 rfl rfl) rfl ?_
  refine vc_y (y_load1 3 rfl one_130 rfl (Pts.vis rfl)) rfl ?_
  refine vp ?_
  refine vp ?_
  refine vc_y (y_elem 6 rfl (Sl.vis) i rfl i3 sl_130 rfl rfl) rfl ?_
  refine vc_storeE 6 rfl [_] h rfl rfl rfl sz_138 rfl (List.getElem?_eq_getElem i3) (Nat.le_of_ble_eq_true rfl) rfl ?_
  refine vc_nil ?_
  refine vc_inNormal ?_
  exact vc_end0n Tryz.results78 _ ((ent_at [3, 3, 3, 0, 2, 2, 0, 0] rfl (ent_cons (ent_cons (ent_cons (ent_cons (ent_cons (ent_cons (ent_two AllRo.set)))))))).trans (ent_RmO0 (rel.put1 hi h xs))) ⟨rfl, rfl⟩
theorem lay_del {b : Nat} {X : RmX} {I : RmI} (rel : RmRel X I) (ok : X.ok) {key : ByteArray} (hk : key.size ≤ 32) {h : SH} {xs : List Ver} (hxb : xs.length ≤ 1000000) (hfk : fnd (ks X.M) key = true) (hne : xs = []) :
  Does Tryz.prog 78 [.pointer (some ⟨b, 0, none⟩), .string key, h.v] (RmO b X I ++ [RoSl eVer h xs]) (fun v l => v = .tuple #[] ∧ l = [RoomC b ⟨X.label, X.ring, X.quota, X.most, X.R, Eng.dlt X.M key⟩]) := by
 refine spec_of Tryz.func78 rfl Tryz.ntmps78 Tryz.results78 _ (by simp) fun ι F => ?_
 have hvo := rel.vis key
 have hfb := rel.freeLe
 have hch := ok.chain key
 have hlv := ok.live
 have hcn := ok.count
 have hvs := ok.vers
 have hml := ok.le
 refine vc_see 7 rfl (RoSl.vis.imp fun w r => r.len) (fun hlen => ?_)
 refine vc_see 6 rfl (hvo.imp fun w r => r.len) (fun hold => ?_)
 have hl1 := lives_le (chainM X.M key) hk
 have hl2 := lives_le xs hk
 obtain ⟨i, hi⟩ : ∃ i : Nat, Eng.look I.t key = some (i : Int) := by
  have h0 := hfk
  rw [rel.ks] at h0
  obtain ⟨v, A, B, e1, _⟩ := fnd_split h0
  obtain ⟨i1, _⟩ := rel.idx e1
  exact ⟨v.toNat, by rw [e1, Int.toNat_of_nonneg i1]⟩
 have i2 : i < I.cs.length := (rel.idx hi).2
 have i3 : i < I.hdrs.length := by rw [rel.hl]; exact i2
 have hlk : Eng.look X.M key = some (chainM X.M key) := by
  unfold chainM; rw [rel.look key, hi]; rfl
 have hgv : lookV I.t key = .tuple #[.int .i64 (i : Int), .bool true] := by simp [lookV, hi]
 have hs1 := sum_lives_dlt hlk
 have hs2 := sum_count_dlt hlk
 have hs3 := sum_vers_dlt hlk
 have hln : lives key xs = 0 := by rw [hne]; exact lives_nil key
 have hxl : xs.length = 0 := by rw [hne]; rfl
 refine vc_seq ?_
 refine vc_region ?_
 refine vp ?_
 refine vp ?_
 refine vc_callv ca_76 (us := []) (vs := []) rfl [_, _] rfl [0, 0, 0, 0, 0, 0, 0] rfl (rchain0 rel key) rfl ?_
 rintro _ _ ⟨rfl, rfl⟩
 refine vp ?_
 refine vc_nil ?_
 refine vc_then ?_
 refine vc_seq ?_
 refine vc_region ?_
 refine vp ?_
 refine vp ?_
 refine vc_y (y_fieldP fl_132_7 10 rfl rfl) rfl ?_
 refine vc_y (y_load1 0 rfl one_3 rfl (Pts.vis rfl)) rfl ?_
 refine vp ?_
 refine vc_y (y_len Tryz.underlying138 rfl hlen) rfl ?_
 refine vp ?_
 refine vc_y (y_len Tryz.underlying138 rfl hold) rfl ?_
 first | refine vc_y (y_arith _ rfl (wrap64 (by omega) (by omega))) rfl ?_ | refine vp ?_
 refine vc_y (y_arith (versM (Eng.dlt X.M key)) rfl (by rw [wrap64 (by omega) (by omega)]; omega)) rfl ?_
 refine vp ?_
 refine vc_y (y_fieldP fl_132_7 10 rfl rfl) rfl ?_
 refine vc_storeP 0 rfl [_] [_, _, _, _, _, _, _, _, _, _, _] rfl rfl rfl sz_3 rfl rfl rfl ?_
 refine vc_nil ?_
 refine vc_then ?_
 refine vc_seq ?_
 refine vc_region ?_
 refine vp ?_
 refine vp ?_
 refine vc_callv ca_120 (us := []) (vs := []) rfl [_, _] rfl [6] rfl (lives_spec hvo (by omega) (by omega)) rfl ?_
 rintro _ _ ⟨rfl, rfl⟩
 refine vp ?_
 refine vp ?_
 refine vc_callv ca_120 (us := []) (vs := []) rfl [_, _] rfl [7] rfl (lives_spec RoSl.vis hxb (by omega)) rfl ?_
 rintro _ _ ⟨rfl, rfl⟩
 refine vp ?_
 refine vp ?_
 refine vc_nil ?_
 refine vc_then ?_
 refine vc_seq ?_
 refine vc_region ?_
 refine vp ?_
 refine vp ?_
 refine vc_y (y_fieldP fl_132_5 8 rfl rfl) rfl ?_
 refine vc_y (y_load1 2 rfl one_3 rfl (Pts.vis rfl)) rfl ?_
 refine vp ?_
 refine vp ?_
 first | refine vc_y (y_arith _ rfl (wrap64 (by omega) (by omega))) rfl ?_ | refine vp ?_
 refine vc_y (y_arith (liveM (Eng.dlt X.M key)) rfl (by rw [wrap64 (by omega) (by omega)]; omega)) rfl ?_
 refine vp ?_
 refine vc_y (y_fieldP fl_132_5 8 rfl rfl) rfl ?_
 refine vc_storeP 2 rfl [_] [_, _, _, _, _, _, _, _, _, _, _] rfl rfl rfl sz_3 rfl rfl rfl ?_
 refine vc_nil ?_
 refine vc_then ?_
 refine vc_seq ?_
 refine vc_region ?_
 refine vp ?_
 refine vp ?_
 refine vc_y (y_fieldP fl_132_6 9 rfl rfl) rfl ?_
 refine vc_y (y_load1 2 rfl one_3 rfl (Pts.vis rfl)) rfl ?_
 refine vp ?_
 refine vc_y (y_min2 (min (lives key xs) 1) rfl rfl (by split <;> omega)) rfl ?_
 refine vp ?_
 refine vc_y (y_min2 (min (lives key (chainM X.M key)) 1) rfl rfl (by split <;> omega)) rfl ?_
 first | refine vc_y (y_arith _ rfl (wrap64 (by omega) (by omega))) rfl ?_ | refine vp ?_
 refine vc_y (y_arith (countM (Eng.dlt X.M key)) rfl (by rw [wrap64 (by omega) (by omega)]; omega)) rfl ?_
 refine vp ?_
 refine vc_y (y_fieldP fl_132_6 9 rfl rfl) rfl ?_
 refine vc_storeP 2 rfl [_] [_, _, _, _, _, _, _, _, _, _, _] rfl rfl rfl sz_3 rfl rfl rfl ?_
 refine vc_nil ?_
 refine vc_then ?_
 refine vc_seq ?_
 refine vc_region ?_
 refine vp ?_
 refine vp ?_
 refine vc_y (y_fieldP fl_132_2 5 rfl rfl) rfl ?_
 refine vc_y (y_load1 2 rfl one_129 rfl (Pts.vis rfl)) rfl ?_
 refine vp ?_
 refine vc_callv ca_126 (us := []) (vs := []) rfl [_, _] rfl [5] rfl (Does.re (tree_get key) hgv) rfl ?_
 rintro _ _ ⟨rfl, rfl⟩
 iterate 5 refine vp ?_
 refine vc_nil ?_
 refine vc_then ?_
 refine vc_block ?_
 refine vc_seq ?_
 refine vc_region ?_
 refine vp ?_
 refine vp ?_
 refine vc_guardT 65 rfl rfl ?_
 refine vp ?_
 refine vc_guardT 65 rfl rfl ?_
 refine vc_y (y_len Tryz.underlying138 rfl hlen) rfl ?_
 refine vc_guardT 65 rfl rfl ?_
 iterate 3 refine vp ?_
 refine vc_nil ?_
 refine vc_then ?_
 first | refine vc_condP rfl (fun c63 => ?_) (fun c63 => ?_) | refine vc_condN rfl (fun c63 => ?_) (fun c63 => ?_) | refine vc_cond rfl (fun c63 => ?_) (fun c63 => ?_)
 ·skip
  refine vc_seq ?_
  refine vc_region ?_
  refine vp ?_
  refine vp ?_
  refine vc_y (y_fieldP fl_132_2 5 rfl rfl) rfl ?_
  refine vc_y (y_load1 3 rfl one_129 rfl (Pts.vis rfl)) rfl ?_
  refine vp ?_
  refine vc_callv ca_129 (us := []) (vs := []) rfl [_, _] rfl [0] rfl (tree_del key ((fnd_iff (rel.ks ▸ ok.rise)).1 (rel.ks ▸ hfk))) rfl ?_
  rintro _ _ ⟨rfl, rfl⟩
  refine vc_nil ?_
  refine vc_then ?_
  refine vc_seq ?_
  refine vc_region ?_
  refine vp ?_
  refine vp ?_
  refine vc_y (y_fieldP fl_132_3 6 rfl rfl) rfl ?_
  refine vc_y (y_load1 3 rfl one_130 rfl (Pts.vis rfl)) rfl ?_
  refine vp ?_
  refine vc_y (y_elem 6 rfl (Sl.vis) i rfl i3 sl_130 rfl rfl) rfl ?_
  refine vc_storeE 6 rfl [_] nilS rfl rfl rfl sz_138 rfl (List.getElem?_eq_getElem i3) (Nat.le_of_ble_eq_true rfl) rfl ?_
  refine vc_nil ?_
  refine vc_then ?_
  refine vc_region ?_
  iterate 3 refine vp ?_
  refine vc_y (y_fieldP fl_132_4 7 rfl rfl) rfl ?_
  refine vc_y (y_load1 3 rfl one_72 rfl (Pts.vis rfl)) rfl ?_
  refine vp ?_
  refine vc_buildSlice (E := eNat) [(0, _)] [i] rfl rfl (bs_72_1 _ rfl) rfl (fun h88 => ?_)
  refine vc_append 8 rfl 0 rfl (Sl.vis) el_72_eNat Tryz.underlying72 rfl rfl (by simp; omega) (by simp; omega) rfl (fun h89 => ?_)
  refine vp ?_
  refine vc_y (y_fieldP fl_132_4 7 rfl rfl) rfl ?_
  refine vc_storeP 4 rfl [_] [_, _, _, _, _, _, _, _, _, _, _] rfl rfl rfl sz_72 rfl rfl rfl ?_
  refine vc_nil ?_
  refine vc_inNormal ?_
  exact vc_end0n Tryz.results78 _ ((ent_at [4, 4, 4, 1, 3, 3, 2] rfl (ent_cons (ent_cons (ent_cons (ent_cons (ent_cons (ent_cons ((Ent.empL.trans (Ent.sep RoSl.nil Ent.rfl)).trans (ent_two AllRo.set))))))))).trans (ent_RmO0 (rel.dlt hi h89))) ⟨rfl, rfl⟩
 ·skip
  rw [hne] at c63; simp at c63
theorem lay_ins {b : Nat} {X : RmX} {I : RmI} (rel : RmRel X I) (ok : X.ok) {key : ByteArray} (hk : key.size ≤ 32) {h : SH} {xs : List Ver} (hxb : xs.length ≤ 1000000) (hfk : fnd (ks X.M) key = false) (hne : xs ≠ []) (hlt : X.M.length < 100000) :
  Does Tryz.prog 78 [.pointer (some ⟨b, 0, none⟩), .string key, h.v] (RmO b X I ++ [RoSl eVer h xs]) (fun v l => v = .tuple #[] ∧ l = [RoomC b ⟨X.label, X.ring, X.quota, X.most, X.R, Eng.ins X.M key xs⟩]) := by
 refine spec_of Tryz.func78 rfl Tryz.ntmps78 Tryz.results78 _ (by simp) fun ι F => ?_
 have hvo := rel.vis key
 have hfb := rel.freeLe
 have hch := ok.chain key
 have hlv := ok.live
 have hcn := ok.count
 have hvs := ok.vers
 have hml := ok.le
 refine vc_see 7 rfl (RoSl.vis.imp fun w r => r.len) (fun hlen => ?_)
 refine vc_see 6 rfl (hvo.imp fun w r => r.len) (fun hold => ?_)
 have hl1 := lives_le (chainM X.M key) hk
 have hl2 := lives_le xs hk
 have hkt : key ∉ ks I.t := fun h0 => by rw [← rel.ks] at h0; rw [(fnd_iff ok.rise).2 h0] at hfk; cases hfk
 have htl : I.t.length < 100000 := by have := congrArg List.length rel.m; rw [List.length_map] at this; omega
 have hli : Eng.look I.t key = none := by unfold Eng.look; rw [← rel.ks, hfk]; rfl
 have hgv : lookV I.t key = .tuple #[.int .i64 0, .bool false] := by simp [lookV, hli]
 have hlx : chainM X.M key = [] := by unfold chainM; rw [rel.look key, hli]; rfl
 have hln : lives key (chainM X.M key) = 0 := by rw [hlx]; exact lives_nil key
 have hl0 : (chainM X.M key).length = 0 := by rw [hlx]; rfl
 have hs1 := sum_lives_ins X.M key xs
 have hs2 := sum_count_ins X.M key xs
 have hs3 := sum_vers_ins X.M key xs
 refine vc_see 5 rfl (Sl.vis.imp fun w r => (⟨r.len, r.cap⟩ : I.hf.len = I.free.length ∧ I.free.length ≤ I.hf.cap)) (fun hflc => ?_)
 obtain ⟨hfl, hfc⟩ := hflc
 refine vc_see 4 rfl (Sl.vis.imp fun w r => r.len) (fun hcl => ?_)
 rw [rel.hl] at hcl
 refine vc_seq ?_
 refine vc_region ?_
 refine vp ?_
 refine vp ?_
 refine vc_callv ca_76 (us := []) (vs := []) rfl [_, _] rfl [0, 0, 0, 0, 0, 0, 0] rfl (rchain0 rel key) rfl ?_
 rintro _ _ ⟨rfl, rfl⟩
 refine vp ?_
 refine vc_nil ?_
 refine vc_then ?_
 refine vc_seq ?_
 refine vc_region ?_
 refine vp ?_
 refine vp ?_
 refine vc_y (y_fieldP fl_132_7 10 rfl rfl) rfl ?_
 refine vc_y (y_load1 0 rfl one_3 rfl (Pts.vis rfl)) rfl ?_
 refine vp ?_
 refine vc_y (y_len Tryz.underlying138 rfl hlen) rfl ?_
 refine vp ?_
 refine vc_y (y_len Tryz.underlying138 rfl hold) rfl ?_
 first | refine vc_y (y_arith _ rfl (wrap64 (by omega) (by omega))) rfl ?_ | refine vp ?_
 refine vc_y (y_arith (versM (Eng.ins X.M key xs)) rfl (by rw [wrap64 (by omega) (by omega)]; omega)) rfl ?_
 refine vp ?_
 refine vc_y (y_fieldP fl_132_7 10 rfl rfl) rfl ?_
 refine vc_storeP 0 rfl [_] [_, _, _, _, _, _, _, _, _, _, _] rfl rfl rfl sz_3 rfl rfl rfl ?_
 refine vc_nil ?_
 refine vc_then ?_
 refine vc_seq ?_
 refine vc_region ?_
 refine vp ?_
 refine vp ?_
 refine vc_callv ca_120 (us := []) (vs := []) rfl [_, _] rfl [6] rfl (lives_spec hvo (by omega) (by omega)) rfl ?_
 rintro _ _ ⟨rfl, rfl⟩
 refine vp ?_
 refine vp ?_
 refine vc_callv ca_120 (us := []) (vs := []) rfl [_, _] rfl [7] rfl (lives_spec RoSl.vis hxb (by omega)) rfl ?_
 rintro _ _ ⟨rfl, rfl⟩
 refine vp ?_
 refine vp ?_
 refine vc_nil ?_
 refine vc_then ?_
 refine vc_seq ?_
 refine vc_region ?_
 refine vp ?_
 refine vp ?_
 refine vc_y (y_fieldP fl_132_5 8 rfl rfl) rfl ?_
 refine vc_y (y_load1 2 rfl one_3 rfl (Pts.vis rfl)) rfl ?_
 refine vp ?_
 refine vp ?_
 first | refine vc_y (y_arith _ rfl (wrap64 (by omega) (by omega))) rfl ?_ | refine vp ?_
 refine vc_y (y_arith (liveM (Eng.ins X.M key xs)) rfl (by rw [wrap64 (by omega) (by omega)]; omega)) rfl ?_
 refine vp ?_
 refine vc_y (y_fieldP fl_132_5 8 rfl rfl) rfl ?_
 refine vc_storeP 2 rfl [_] [_, _, _, _, _, _, _, _, _, _, _] rfl rfl rfl sz_3 rfl rfl rfl ?_
 refine vc_nil ?_
 refine vc_then ?_
 refine vc_seq ?_
 refine vc_region ?_
 refine vp ?_
 refine vp ?_
 refine vc_y (y_fieldP fl_132_6 9 rfl rfl) rfl ?_
 refine vc_y (y_load1 2 rfl one_3 rfl (Pts.vis rfl)) rfl ?_
 refine vp ?_
 refine vc_y (y_min2 (min (lives key xs) 1) rfl rfl (by split <;> omega)) rfl ?_
 refine vp ?_
 refine vc_y (y_min2 (min (lives key (chainM X.M key)) 1) rfl rfl (by split <;> omega)) rfl ?_
 first | refine vc_y (y_arith _ rfl (wrap64 (by omega) (by omega))) rfl ?_ | refine vp ?_
 refine vc_y (y_arith (countM (Eng.ins X.M key xs)) rfl (by rw [wrap64 (by omega) (by omega)]; omega)) rfl ?_
 refine vp ?_
 refine vc_y (y_fieldP fl_132_6 9 rfl rfl) rfl ?_
 refine vc_storeP 2 rfl [_] [_, _, _, _, _, _, _, _, _, _, _] rfl rfl rfl sz_3 rfl rfl rfl ?_
 refine vc_nil ?_
 refine vc_then ?_
 refine vc_seq ?_
 refine vc_region ?_
 refine vp ?_
 refine vp ?_
 refine vc_y (y_fieldP fl_132_2 5 rfl rfl) rfl ?_
 refine vc_y (y_load1 2 rfl one_129 rfl (Pts.vis rfl)) rfl ?_
 refine vp ?_
 refine vc_callv ca_126 (us := []) (vs := []) rfl [_, _] rfl [5] rfl (Does.re (tree_get key) hgv) rfl ?_
 rintro _ _ ⟨rfl, rfl⟩
 iterate 5 refine vp ?_
 refine vc_nil ?_
 refine vc_then ?_
 refine vc_block ?_
 refine vc_seq ?_
 refine vc_region ?_
 refine vp ?_
 refine vp ?_
 refine vc_guardF 65 rfl rfl rfl rfl ?_
 refine vc_guardF 65 rfl rfl rfl rfl ?_
 refine vc_guardF 65 rfl rfl rfl rfl ?_
 refine vp ?_
 refine vp ?_
 refine vc_nil ?_
 refine vc_then ?_
 refine vc_condF rfl ?_
 refine vc_seq ?_
 refine vc_region ?_
 refine vp ?_
 refine vp ?_
 refine vc_nil ?_
 refine vc_then ?_
 refine vc_condF rfl ?_
 refine vc_seq ?_
 refine vc_region ?_
 refine vp ?_
 refine vc_y (y_len Tryz.underlying138 rfl hlen) rfl ?_
 refine vp ?_
 refine vp ?_
 first | refine vc_splitP 105 rfl (fun c105 => ?_) (fun c105 => ?_) | refine vc_splitN 105 rfl (fun c105 => ?_) (fun c105 => ?_) | refine vc_split 105 rfl (fun c105 => ?_) (fun c105 => ?_)
 ·skip
  refine vc_guardT 105 rfl rfl ?_
  refine vp ?_
  refine vc_guardT 105 rfl rfl ?_
  refine vp ?_
  refine vc_guardT 105 rfl rfl ?_
  refine vc_y (y_fieldP fl_132_4 7 rfl rfl) rfl ?_
  refine vc_guardT 105 rfl rfl ?_
  refine vc_y (y_load1 3 rfl one_72 rfl (Pts.vis rfl)) rfl ?_
  refine vc_guardT 105 rfl rfl ?_
  refine vc_y (y_len Tryz.underlying72 rfl hfl) rfl ?_
  refine vc_guardT 105 rfl rfl ?_
  iterate 3 refine vp ?_
  refine vc_nil ?_
  refine vc_then ?_
  first | refine vc_condP rfl (fun c101 => ?_) (fun c101 => ?_) | refine vc_condN rfl (fun c101 => ?_) (fun c101 => ?_) | refine vc_cond rfl (fun c101 => ?_) (fun c101 => ?_)
  ·skip
   obtain ⟨fr, i, hf⟩ : ∃ fr i, I.free = fr ++ [i] := by
    rcases List.eq_nil_or_concat I.free with e | ⟨fr, i, e⟩
    ·rw [e] at c101; simp at c101
    ·exact ⟨fr, i, by rw [e, List.concat_eq_append]⟩
   have hfl2 : I.free.length = fr.length + 1 := by rw [hf]; simp
   have i2 : i < I.cs.length := (nodup_range_perm rel.perm).2.1 i (by rw [hf]; simp)
   have i3 : i < I.hdrs.length := by rw [rel.hl]; exact i2
   refine vc_seq ?_
   refine vc_draw (by kernel_rfl) _ none [3, 6] rfl ?_
   refine tpp 0 ?_
   refine tpp 1 ?_
   refine tp 2 rfl (by exact y_fieldP fl_132_4 7 rfl rfl) ?_
   refine tk 3 rfl (by exact y_load1 0 rfl one_72 rfl (Pts.vis rfl)) ?_
   refine tpp 4 ?_
   refine tpp 5 ?_
   refine tp 6 rfl (by exact y_fieldP fl_132_4 7 rfl rfl) ?_
   refine tk 7 rfl (by exact y_load1 0 rfl one_72 rfl (Pts.vis rfl)) ?_
   refine tp 8 rfl (by exact y_len Tryz.underlying72 rfl hfl) ?_
   refine tp 9 rfl (by exact y_arith (fr.length : Int) rfl (by rw [wrap64 (by omega) (by omega)]; omega)) ?_
   refine tk 10 rfl (by exact y_elem 1 rfl (Sl.vis) fr.length rfl (by omega) sl_72 rfl rfl) ?_
   refine tk 11 rfl (by exact y_load1 1 rfl one_3 rfl (Rd.vis1 (Sl.vis) (show I.free[fr.length]? = some i by rw [hf]; simp) rfl)) ?_
   refine tpp 12 ?_
   refine va_done (by kernel_rfl) ?_
   refine vc_then ?_
   refine vc_seq ?_
   refine vc_draw (by kernel_rfl) _ (some 14) [3] rfl ?_
   refine tpp 0 ?_
   refine tpp 1 ?_
   refine tpp 2 ?_
   refine tp 3 rfl (by exact y_fieldP fl_132_4 7 rfl rfl) ?_
   refine tk 4 rfl (by exact y_load1 0 rfl one_72 rfl (Pts.vis rfl)) ?_
   refine tpp 5 ?_
   refine tpp 6 ?_
   refine tp 7 rfl (by exact y_fieldP fl_132_4 7 rfl rfl) ?_
   refine tk 8 rfl (by exact y_load1 0 rfl one_72 rfl (Pts.vis rfl)) ?_
   refine tp 9 rfl (by exact y_len Tryz.underlying72 rfl hfl) ?_
   refine tp 10 rfl (by exact y_arith (fr.length : Int) rfl (by rw [wrap64 (by omega) (by omega)]; omega)) ?_
   refine tp 11 rfl (by exact y_slice sl_72 rfl 0 fr.length I.hf.cap rfl ⟨_, _, rfl, rfl⟩ rfl (by simp) (by omega) (by omega) (by omega)) ?_
   refine tpp 12 ?_
   refine tp 13 rfl (by exact y_fieldP fl_132_4 7 rfl rfl) ?_
   refine va_ready [14] (by kernel_rfl) rfl ?_
   refine vo_cons rfl (fun hC0 => ?_) ?_
   ·skip
    refine vc_storeP 3 rfl [_] [_, _, _, _, _, _, _, _, _, _, _] rfl rfl rfl sz_72 rfl rfl rfl ?_
    refine vc_nil ?_
    refine vc_then ?_
    refine va_gone hC0 (by kernel_rfl) ?_
    clear hC0
    refine va_done (by kernel_rfl) ?_
    refine vc_then ?_
    refine vc_seq ?_
    refine vc_region ?_
    refine vp ?_
    refine vp ?_
    refine vc_y (y_fieldP fl_132_3 6 rfl rfl) rfl ?_
    refine vc_y (y_load1 3 rfl one_130 rfl (Pts.vis rfl)) rfl ?_
    refine vp ?_
    refine vp ?_
    refine vc_y (y_elem 6 rfl (Sl.vis) i rfl i3 sl_130 rfl rfl) rfl ?_
    refine vc_storeE 6 rfl [_] h rfl rfl rfl sz_138 rfl (List.getElem?_eq_getElem i3) (Nat.le_of_ble_eq_true rfl) rfl ?_
    refine vc_nil ?_
    refine vc_then ?_
    refine vc_region ?_
    refine vp ?_
    refine vp ?_
    refine vc_y (y_fieldP fl_132_2 5 rfl rfl) rfl ?_
    refine vc_y (y_load1 3 rfl one_129 rfl (Pts.vis rfl)) rfl ?_
    refine vp ?_
    refine vp ?_
    refine vc_callv ca_130 (us := []) (vs := []) rfl [_, _, _] rfl [0] rfl (tree_put key (i : Int) hkt htl) rfl ?_
    rintro _ _ ⟨rfl, rfl⟩
    refine vc_nil ?_
    refine vc_inNormal ?_
    exact vc_end0n Tryz.results78 _ ((ent_at [3, 3, 3, 0, 2, 2, 0, 0] rfl (ent_cons (ent_cons (ent_cons (ent_cons (ent_cons ((ent_head (B := Sl eNat (I.hf.cut 1 0 fr.length I.hf.cap) fr) (by have := Sl.cut (E := eNat) (h := I.hf) (xs := I.free) (lo := 0) (hi := fr.length) (mx := I.hf.cap) (Nat.zero_le _) (by omega) (by omega) (Nat.le_refl _); rw [List.drop_zero, hf, List.take_left] at this; rw [hf]; exact this)).trans (ent_cons (ent_two AllRo.set))))))))).trans (ent_RmO0 (rel.insF (key := key) hf h (I.hf.cut 1 0 fr.length I.hf.cap) xs))) ⟨rfl, rfl⟩
   exact vo_nil
  ·skip
   have hf : I.free = [] := List.length_eq_zero_iff.1 (by omega)
   refine vc_seq ?_
   refine vc_region ?_
   refine vp ?_
   refine vc_y (y_len Tryz.underlying138 rfl hlen) rfl ?_
   refine vp ?_
   refine vp ?_
   refine vc_nil ?_
   refine vc_then ?_
   first | refine vc_condP rfl (fun c153 => ?_) (fun c153 => ?_) | refine vc_condN rfl (fun c153 => ?_) (fun c153 => ?_) | refine vc_cond rfl (fun c153 => ?_) (fun c153 => ?_)
   ·skip
    refine vc_seq ?_
    refine vc_draw (by kernel_rfl) _ none [3] rfl ?_
    refine tpp 0 ?_
    refine tpp 1 ?_
    refine tp 2 rfl (by exact y_fieldP fl_132_2 5 rfl rfl) ?_
    refine tk 3 rfl (by exact y_load1 0 rfl one_129 rfl (Pts.vis rfl)) ?_
    refine tpp 4 ?_
    refine tpp 5 ?_
    refine tpp 6 ?_
    refine tp 7 rfl (by exact y_fieldP fl_132_3 6 rfl rfl) ?_
    refine tk 8 rfl (by exact y_load1 0 rfl one_130 rfl (Pts.vis rfl)) ?_
    refine tp 9 rfl (by exact y_len Tryz.underlying130 rfl hcl) ?_
    refine va_ready [10] (by kernel_rfl) rfl ?_
    refine vo_cons rfl (fun hC0 => ?_) ?_
    ·skip
     refine vc_callv ca_130 (us := []) (vs := []) rfl [_, _, _] rfl [0] rfl (tree_put key (I.cs.length : Int) hkt htl) rfl ?_
     rintro _ _ ⟨rfl, rfl⟩
     refine vc_nil ?_
     refine vc_then ?_
     refine va_kept hC0 [3] rfl ?_
     clear hC0
     refine va_done (by kernel_rfl) ?_
     refine vc_then ?_
     refine vc_region ?_
     iterate 3 refine vp ?_
     refine vc_y (y_fieldP fl_132_3 6 rfl rfl) rfl ?_
     refine vc_y (y_load1 3 rfl one_130 rfl (Pts.vis rfl)) rfl ?_
     refine vp ?_
     refine vc_buildSlice (E := eVS) [(0, _)] [h] rfl rfl (bs_130_1 _ rfl) rfl (fun h174 => ?_)
     refine vc_append 7 rfl 0 rfl (Sl.vis) el_130_eVS Tryz.underlying130 rfl rfl (by have := rel.hl; have := rel.le; simp; omega) (by have := rel.hl; have := rel.le; simp; omega) rfl (fun h175 => ?_)
     refine vp ?_
     refine vc_y (y_fieldP fl_132_3 6 rfl rfl) rfl ?_
     refine vc_storeP 4 rfl [_] [_, _, _, _, _, _, _, _, _, _, _] rfl rfl rfl sz_130 rfl rfl rfl ?_
     refine vc_nil ?_
     refine vc_inNormal ?_
     exact vc_end0n Tryz.results78 _ ((ent_at [4, 4, 4, 1, 3, 3, 1, 1] rfl (ent_cons (ent_cons (ent_cons (ent_cons (ent_cons (ent_cons (ent_two (AllRo.push rel.hl))))))))).trans (ent_RmO0 (rel.insN (key := key) hf h h175 xs hlt))) ⟨rfl, rfl⟩
    exact vo_nil
   ·skip
    exact absurd (List.length_eq_zero_iff.1 (by omega)) hne
 ·skip
  exact absurd (List.length_eq_zero_iff.1 (by omega)) hne
end Go.Proofs.YtcpbibdbahfgaaaGreat
