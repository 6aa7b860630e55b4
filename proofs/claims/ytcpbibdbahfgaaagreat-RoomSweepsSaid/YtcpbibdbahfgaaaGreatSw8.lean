/-
 The walk of Del.
-/
import Derived.Test.YtcpbibdbahfgaaaGreatSw7
import Derived.Test.YtcpbibdbahfgaaaGreatSw6
import Derived.Test.YtcpbibdbahfgaaaGreatSw3
import Derived.Test.YtcpbibdbahfgaaaGreatSw4
set_option linter.unusedVariables false
set_option linter.unusedSimpArgs false
set_option autoImplicit false
set_option maxHeartbeats 4000000
namespace Go.Proofs.YtcpbibdbahfgaaaGreat
open Go.Eng
namespace FTree10
theorem fl_204_0 : Fld Tryz.prog 204 0 0 := ⟨_, _, 0, Tryz.underlying204, rfl, rfl, by kernel_rfl⟩
theorem one_202 : TyOne Tryz.prog 202 := ⟨⟨_, Tryz.underlying202, rfl⟩, by kernel_rfl⟩
theorem ze_231 : (Tryz.prog.info? 231).map (·.zero) = some (some (.agg #[.slice none 0 0, .slice none 0 0, .slice none 0 0])) := by kernel_rfl
theorem bu_231_n   (w : World) : (Instr.build 231 #[]).run Tryz.prog w = .ok (.agg #[.slice none 0 0, .slice none 0 0, .slice none 0 0]) w := by
 have hz := @ze_231
 exact Go.Eng.run_build (pl := [(0, 1), (1, 1), (2, 1)]) hz Tryz.underlying231 (by kernel_rfl) rfl (by simp [Instr.fill, cells_agg]) w
theorem sl_202 : TySl Tryz.prog 202 231 3 := ⟨Tryz.underlying202, by kernel_rfl⟩
theorem sz_231 : (Tryz.prog.info? 231).map (·.size) = some 3 := by kernel_rfl
theorem fl_204_1 : Fld Tryz.prog 204 1 1 := ⟨_, _, 0, Tryz.underlying204, rfl, rfl, by kernel_rfl⟩
theorem one_72 : TyOne Tryz.prog 72 := ⟨⟨_, Tryz.underlying72, rfl⟩, by kernel_rfl⟩
theorem sz_3 : (Tryz.prog.info? 3).map (·.size) = some 1 := by kernel_rfl
theorem ze_3 : (Tryz.prog.info? 3).map (·.zero) = some (some (.int .i64 0)) := by kernel_rfl
theorem bs_72_1 (v0 : Value) (h0 : v0.cells = #[v0]) (w : World) : (Instr.buildSlice 72 1 #[(0, v0)]).run Tryz.prog w = .ok (.slice (some ⟨w.heap.size, 0, none⟩) 1 1) { w with heap := w.heap.push (.cells #[v0] 3 (0, 0)) } :=
 Go.Eng.run_buildSlice Tryz.underlying72 sz_3 ze_3 (by decide) (by rw [show Array.range (1 * 1) = #[0] from by decide]; simp [Instr.fill, cells_agg, h0]) w
theorem el_72_eNat : TyEl Tryz.prog 72 eNat 8 := ⟨Tryz.underlying72, .int .i64 0, by kernel_rfl, rfl⟩
theorem sz_72 : (Tryz.prog.info? 72).map (·.size) = some 1 := by kernel_rfl
theorem ca_126 : Callable Tryz.prog 126 := ⟨_, _, Tryz.func126, rfl, rfl⟩
theorem fl_204_3 : Fld Tryz.prog 204 3 3 := ⟨_, _, 0, Tryz.underlying204, rfl, rfl, by kernel_rfl⟩
theorem one_3 : TyOne Tryz.prog 3 := ⟨⟨_, Tryz.underlying3, rfl⟩, by kernel_rfl⟩
theorem fl_204_2 : Fld Tryz.prog 204 2 2 := ⟨_, _, 0, Tryz.underlying204, rfl, rfl, by kernel_rfl⟩
theorem ca_161 : Callable Tryz.prog 161 := ⟨_, _, Tryz.func161, rfl, rfl⟩
theorem ag_231 : TyAgg Tryz.prog 231 3 := ⟨⟨_, Tryz.underlying231, rfl⟩, by kernel_rfl⟩
theorem fl_231_2 : Fld Tryz.prog 231 2 2 := ⟨_, _, 0, Tryz.underlying231, rfl, rfl, by kernel_rfl⟩
theorem ca_162 : Callable Tryz.prog 162 := ⟨_, _, Tryz.func162, rfl, rfl⟩
theorem sl_72 : TySl Tryz.prog 72 3 1 := ⟨Tryz.underlying72, by kernel_rfl⟩
theorem ca_163 : Callable Tryz.prog 163 := ⟨_, _, Tryz.func163, rfl, rfl⟩
theorem fl_231_0 : Fld Tryz.prog 231 0 0 := ⟨_, _, 0, Tryz.underlying231, rfl, rfl, by kernel_rfl⟩
theorem one_136 : TyOne Tryz.prog 136 := ⟨⟨_, Tryz.underlying136, rfl⟩, by kernel_rfl⟩
end FTree10
open FTree10
theorem drop_core {b : Nat} {fr : List Nat} {r : Option Nat} {m : Int} {hl hf : SH} {hs : List Nd3} {i : Nat} {h0 : Nd3} (hh : hs[i]? = some h0) (hb : fr.length ≤ 1000000) :
  Does Tryz.prog 162 [.pointer (some ⟨b, 0, none⟩), .int .i64 (i : Int)] [Pts b [hl.v, hf.v, .int .i64 (rootV r), .int .i64 m] 204, Sl eNode hl hs, Sl eNat hf fr] (fun v l2 => ∃ hf', v = .tuple #[] ∧ l2 = [Pts b [hl.v, hf'.v, .int .i64 (rootV r), .int .i64 m] 204, Sl eNode hl (hs.set i nil3), Sl eNat hf' (fr ++ [i])]) := by
 refine spec_of Tryz.func162 rfl Tryz.ntmps162 Tryz.results162 _ (by simp) fun ι F => ?_
 refine vc_seq ?_
 refine vc_region ?_
 refine vp ?_
 refine vp ?_
 refine vc_y (y_fieldP fl_204_0 0 rfl rfl) rfl ?_
 refine vc_y (y_load1 0 rfl one_202 rfl (Pts.vis rfl)) rfl ?_
 refine vp ?_
 refine vc_y (y_build [] [_, _, _] rfl (bu_231_n  )) rfl ?_
 refine vc_y (y_elem 1 rfl (Sl.vis) i rfl (getLt hh) sl_202 rfl rfl) rfl ?_
 refine vc_storeE 1 rfl [_, _, _] nil3 rfl rfl rfl sz_231 rfl hh (Nat.le_of_ble_eq_true rfl) rfl ?_
 refine vc_nil ?_
 refine vc_then ?_
 refine vc_region ?_
 iterate 3 refine vp ?_
 refine vc_y (y_fieldP fl_204_1 1 rfl rfl) rfl ?_
 refine vc_y (y_load1 0 rfl one_72 rfl (Pts.vis rfl)) rfl ?_
 refine vp ?_
 refine vc_buildSlice (E := eNat) [(0, _)] [i] rfl rfl (bs_72_1 _ rfl) rfl (fun h17 => ?_)
 refine vc_append 3 rfl 0 rfl (Sl.vis) el_72_eNat Tryz.underlying72 rfl rfl (by simp; omega) (by simp; omega) rfl (fun h18 => ?_)
 refine vp ?_
 refine vc_y (y_fieldP fl_204_1 1 rfl rfl) rfl ?_
 refine vc_storeP 1 rfl [_] [_, _, _, _] rfl rfl rfl sz_72 rfl rfl rfl ?_
 refine vc_nil ?_
 exact vc_end0n Tryz.results162 _ (ent_pick [1, 1, 1] rfl) ⟨h18, rfl, rfl⟩
theorem Del_none {b : Nat} {l : List Nd} {fr : List Nat} {m : Int} {hl hf : SH} {hs : List Nd3} (key : ByteArray) :
  Does Tryz.prog 129 [.pointer (some ⟨b, 0, none⟩), .string key] (TO b ⟨l, fr, none, m⟩ hl hf hs) (fun v l2 => v = .tuple #[.int .i64 0, .bool false] ∧ l2 = TO b ⟨l, fr, none, m⟩ hl hf hs) := by
 refine spec_of Tryz.func129 rfl Tryz.ntmps129 Tryz.results129 _ (by simp) fun ι F => ?_
 refine vc_seq ?_
 refine vc_region ?_
 refine vp ?_
 refine vp ?_
 refine vc_nil ?_
 refine vc_then ?_
 refine vc_seq ?_
 refine vc_region ?_
 refine vp ?_
 refine vp ?_
 refine vc_callv ca_126 (us := []) (vs := []) rfl [_, _] rfl [0, 0, 0, 0] rfl (get_none key) rfl ?_
 rintro _ _ ⟨rfl, rfl⟩
 iterate 5 refine vp ?_
 refine vc_nil ?_
 refine vc_then ?_
 refine vc_seq ?_
 refine vc_seq ?_
 refine vc_region ?_
 refine vp ?_
 refine vp ?_
 refine vc_nil ?_
 refine vc_then ?_
 refine vc_condT rfl ?_
 refine vc_seq ?_
 refine vc_region ?_
 refine vp ?_
 refine vp ?_
 refine vc_nil ?_
 refine vc_then ?_
 refine vc_ret ?_
 refine vc_thenRet ?_
 exact vc_end2 Tryz.results129 rfl rfl _ (ent_pick [0, 0, 0, 0] rfl) ⟨rfl, rfl⟩
theorem Del_miss {b : Nat} {l : List Nd} {fr : List Nat} {r : Nat} {m : Int} {hl hf0 : SH} {hs : List Nd3} (hlen : hs.length = l.length) (hR : RiseAll l) (key : ByteArray) {fu jl : Nat} {d : Nd} (hdsc : dsc fu l r key = some jl) (hjd : l[jl]? = some d) (hn : d.nums.length = d.keys.length) (hf : fnd d.keys key = false) :
  Does Tryz.prog 129 [.pointer (some ⟨b, 0, none⟩), .string key] (TO b ⟨l, fr, some r, m⟩ hl hf0 hs) (fun v l2 => v = .tuple #[.int .i64 0, .bool false] ∧ l2 = TO b ⟨l, fr, some r, m⟩ hl hf0 hs) := by
 refine spec_of Tryz.func129 rfl Tryz.ntmps129 Tryz.results129 _ (by simp) fun ι F => ?_
 refine vc_seq ?_
 refine vc_region ?_
 refine vp ?_
 refine vp ?_
 refine vc_nil ?_
 refine vc_then ?_
 refine vc_seq ?_
 refine vc_region ?_
 refine vp ?_
 refine vp ?_
 refine vc_callv ca_126 (us := []) (vs := []) rfl [_, _] rfl [0, 0, 0, 0] rfl (get_some hlen hR key hdsc hjd hn) rfl ?_
 rintro _ _ ⟨rfl, rfl⟩
 iterate 5 refine vp ?_
 refine vc_nil ?_
 refine vc_then ?_
 refine vc_seq ?_
 refine vc_seq ?_
 refine vc_region ?_
 refine vp ?_
 refine vp ?_
 refine vc_nil ?_
 refine vc_then ?_
 first | refine vc_condP rfl (fun c16 => ?_) (fun c16 => ?_) | refine vc_condN rfl (fun c16 => ?_) (fun c16 => ?_) | refine vc_cond rfl (fun c16 => ?_) (fun c16 => ?_)
 ·skip
  refine vc_seq ?_
  refine vc_region ?_
  refine vp ?_
  refine vp ?_
  refine vc_nil ?_
  refine vc_then ?_
  refine vc_ret ?_
  refine vc_thenRet ?_
  exact vc_end2 Tryz.results129 rfl rfl _ (ent_pick [0, 0, 0, 0] rfl) ⟨rfl, rfl⟩
 ·skip
  simp [getN, hf] at c16
  done
theorem Del_down {b : Nat} {l : List Nd} {fr : List Nat} {r : Nat} {m : Int} {hl hf0 : SH} {hs : List Nd3} (hlen : hs.length = l.length) (hR : RiseAll l) (key : ByteArray) {fu jl : Nat} {d : Nd} (hdsc : dsc fu l r key = some jl) (hjd : l[jl]? = some d) (hn : d.nums.length = d.keys.length) (hf : fnd d.keys key = true) (hm0 : 0 ≤ m) (hm : m ≤ 100000) {fd : Nat} {l1 : List Nd} {fr1 : List Nat} {dr : Nd} (hD : DelR key fd l fr r l1 fr1) (hdr : l1[r]? = some dr) (hfr : fr1.length ≤ 1000000) {c : Nat} (hk : dr.kids = [c]) :
  Does Tryz.prog 129 [.pointer (some ⟨b, 0, none⟩), .string key] (TO b ⟨l, fr, some r, m⟩ hl hf0 hs) (fun v l2 => ∃ hf' hs', hs'.length = (l1.set r nd0).length ∧ v = .tuple #[.int .i64 (d.nums.getD (lb d.keys key) 0), .bool true] ∧ l2 = TO b ⟨l1.set r nd0, fr1 ++ [r], some c, (m - 1)⟩ hl hf' hs') := by
 refine spec_of Tryz.func129 rfl Tryz.ntmps129 Tryz.results129 _ (by simp) fun ι F => ?_
 refine vc_seq ?_
 refine vc_region ?_
 refine vp ?_
 refine vp ?_
 refine vc_nil ?_
 refine vc_then ?_
 refine vc_seq ?_
 refine vc_region ?_
 refine vp ?_
 refine vp ?_
 refine vc_callv ca_126 (us := []) (vs := []) rfl [_, _] rfl [0, 0, 0, 0] rfl (get_some hlen hR key hdsc hjd hn) rfl ?_
 rintro _ _ ⟨rfl, rfl⟩
 iterate 5 refine vp ?_
 refine vc_nil ?_
 refine vc_then ?_
 refine vc_seq ?_
 refine vc_seq ?_
 refine vc_region ?_
 refine vp ?_
 refine vp ?_
 refine vc_nil ?_
 refine vc_then ?_
 first | refine vc_condP rfl (fun c16 => ?_) (fun c16 => ?_) | refine vc_condN rfl (fun c16 => ?_) (fun c16 => ?_) | refine vc_cond rfl (fun c16 => ?_) (fun c16 => ?_)
 ·skip
  simp [getN, hf] at c16
 ·skip
  refine vc_skip ?_
  refine vc_then ?_
  refine vc_seq ?_
  refine vc_region ?_
  refine vp ?_
  refine vp ?_
  refine vc_y (y_fieldP fl_204_3 3 rfl rfl) rfl ?_
  refine vc_y (y_load1 0 rfl one_3 rfl (Pts.vis rfl)) rfl ?_
  refine vc_y (y_arith (m - 1) rfl (wrap64 (x := m - 1) (by omega) (by omega))) rfl ?_
  refine vp ?_
  refine vc_y (y_fieldP fl_204_3 3 rfl rfl) rfl ?_
  refine vc_storeP 0 rfl [_] [_, _, _, _] rfl rfl rfl sz_3 rfl rfl rfl ?_
  refine vc_nil ?_
  refine vc_then ?_
  refine vc_seq ?_
  refine vc_region ?_
  iterate 3 refine vp ?_
  refine vc_y (y_fieldP fl_204_2 2 rfl rfl) rfl ?_
  refine vc_y (y_load1 0 rfl one_3 rfl (Pts.vis rfl)) rfl ?_
  refine vp ?_
  refine vc_callv ca_161 (us := []) (vs := []) rfl [_, _, _] rfl [0, 0, 0, 0] rfl (del_spec (r := some r) (m := m - 1) hlen key fd r l1 fr1 hD) rfl ?_
  rintro _ _ ⟨hf1, hs1, ln1, rfl, rfl⟩
  obtain ⟨hr, hhr⟩ := getSome ln1 hdr
  refine vc_see 3 rfl ((Nodes.visK hhr hdr).imp fun w r => r.len) (fun ekr => ?_)
  refine vc_see 3 rfl ((Nodes.visN hhr hdr).imp fun w r => r.len) (fun enr => ?_)
  refine vc_see 3 rfl ((Nodes.visC hhr hdr).imp fun w r => r.len) (fun ecr => ?_)
  refine vc_nil ?_
  refine vc_then ?_
  refine vc_seq ?_
  refine vc_seq ?_
  refine vc_draw (by kernel_rfl) _ none [0, 0, 0, 0] rfl ?_
  refine tpp 0 ?_
  refine tpp 1 ?_
  refine tp 2 rfl (by exact y_fieldP fl_204_0 0 rfl rfl) ?_
  refine tk 3 rfl (by exact y_load1 0 rfl one_202 rfl (Pts.vis rfl)) ?_
  refine tpp 4 ?_
  refine tpp 5 ?_
  refine tp 6 rfl (by exact y_fieldP fl_204_2 2 rfl rfl) ?_
  refine tk 7 rfl (by exact y_load1 0 rfl one_3 rfl (Pts.vis rfl)) ?_
  refine tk 8 rfl (by exact y_elem 1 rfl (Sl.vis) r rfl (getLt hhr) sl_202 rfl rfl) ?_
  refine tk 9 rfl (by exact y_loadA 1 rfl (cs := [_, _, _]) ag_231 rfl (Rd.visA (Sl.vis) hhr rfl)) ?_
  refine va_ready [10] (by kernel_rfl) rfl ?_
  refine vo_cons rfl (fun hC0 => ?_) ?_
  ·skip
   refine vc_alloc [.slice none 0 0, .slice none 0 0, .slice none 0 0] ze_231 rfl rfl (fun b8 => ?_)
   refine vc_nil ?_
   refine vc_then ?_
   refine va_kept hC0 [1, 1, 1, 1] rfl ?_
   clear hC0
   refine va_ready [11] (by kernel_rfl) rfl ?_
   refine vo_cons rfl (fun hC0 => ?_) ?_
   ·skip
    refine vc_storeP 0 rfl [_, _, _] [_, _, _] rfl rfl rfl sz_231 rfl rfl rfl ?_
    refine vc_nil ?_
    refine vc_then ?_
    refine va_kept hC0 [1, 1, 1, 1] rfl ?_
    clear hC0
    refine va_done (by kernel_rfl) ?_
    refine vc_then ?_
    refine vc_block ?_
    refine vc_seq ?_
    refine vc_region ?_
    refine vc_y (y_fieldP fl_231_2 2 rfl rfl) rfl ?_
    refine vc_y (y_load1 0 rfl one_72 rfl (Pts.vis rfl)) rfl ?_
    refine vc_y (y_len Tryz.underlying72 rfl ecr) rfl ?_
    refine vp ?_
    refine vp ?_
    refine vc_nil ?_
    refine vc_then ?_
    first | refine vc_condP rfl (fun c41 => ?_) (fun c41 => ?_) | refine vc_condN rfl (fun c41 => ?_) (fun c41 => ?_) | refine vc_cond rfl (fun c41 => ?_) (fun c41 => ?_)
    ·skip
     refine vc_seq ?_
     refine vc_region ?_
     iterate 3 refine vp ?_
     refine vc_y (y_fieldP fl_204_2 2 rfl rfl) rfl ?_
     refine vc_y (y_load1 1 rfl one_3 rfl (Pts.vis rfl)) rfl ?_
     refine vc_openN 4 rfl hhr hdr ?_
     refine vc_callv ca_162 (us := []) (vs := []) rfl [_, _] rfl [5, 5, 5] rfl (drop_core hhr hfr) rfl ?_
     rintro _ _ ⟨hf', rfl, rfl⟩
     refine vc_nil ?_
     refine vc_then ?_
     refine vc_region ?_
     refine vp ?_
     refine vc_y (y_fieldP fl_231_2 2 rfl rfl) rfl ?_
     refine vc_y (y_load1 7 rfl one_72 rfl (Pts.vis rfl)) rfl ?_
     refine vc_y (y_elem 5 rfl (Sl.vis) 0 rfl (by rw [hk]; simp) sl_72 rfl rfl) rfl ?_
     refine vc_y (y_load1 5 rfl one_3 rfl (Rd.vis1 (Sl.vis) (show dr.kids[0]? = some c by rw [hk]; rfl) rfl)) rfl ?_
     refine vp ?_
     refine vc_y (y_fieldP fl_204_2 2 rfl rfl) rfl ?_
     refine vc_storeP 0 rfl [_] [_, _, _, _] rfl rfl rfl sz_3 rfl rfl rfl ?_
     refine vc_nil ?_
     refine vc_inNormal ?_
     refine vc_then ?_
     refine vc_seq ?_
     refine vc_region ?_
     iterate 3 refine vp ?_
     refine vc_nil ?_
     refine vc_then ?_
     refine vc_ret ?_
     exact vc_end2 Tryz.results129 rfl rfl _ (by simp only [TO, ← NodesX.nil]; exact ent_at [0, 0, 0, 3] rfl (ent_cons (ent_cons (ent_cons (Ent.trans (Ent.empL.trans ((Ent.sep NodeC.nil Ent.rfl).trans Ent.assoc')) (Ent.sep (NodesX.into (ho := []) (hs' := hs1.set r nil3) (ds' := l1.set r nd0) List.not_mem_nil (List.getElem?_set_self (getLt hhr)) (List.getElem?_set_self (getLt hdr)) List.length_set (fun j hj _ => List.getElem?_set_ne (Ne.symm hj)) (fun j hj _ => List.getElem?_set_ne (Ne.symm hj))) Ent.rfl)))))) ⟨hf', hs1.set r nil3, by simp [ln1], by simp [getN, hf], rfl⟩
    ·skip
     rw [hk] at c41; simp at c41
   exact vo_nil
  exact vo_nil
theorem Del_last {b : Nat} {l : List Nd} {fr : List Nat} {r : Nat} {m : Int} {hl hf0 : SH} {hs : List Nd3} (hlen : hs.length = l.length) (hR : RiseAll l) (key : ByteArray) {fu jl : Nat} {d : Nd} (hdsc : dsc fu l r key = some jl) (hjd : l[jl]? = some d) (hn : d.nums.length = d.keys.length) (hf : fnd d.keys key = true) (hm0 : 0 ≤ m) (hm : m ≤ 100000) {fd : Nat} {l1 : List Nd} {fr1 : List Nat} {dr : Nd} (hD : DelR key fd l fr r l1 fr1) (hdr : l1[r]? = some dr) (hfr : fr1.length ≤ 1000000) (hk : dr.kids = []) (hk2 : dr.keys = []) :
  Does Tryz.prog 129 [.pointer (some ⟨b, 0, none⟩), .string key] (TO b ⟨l, fr, some r, m⟩ hl hf0 hs) (fun v l2 => ∃ hf' hs', hs'.length = (l1.set r nd0).length ∧ v = .tuple #[.int .i64 (d.nums.getD (lb d.keys key) 0), .bool true] ∧ l2 = TO b ⟨l1.set r nd0, fr1 ++ [r], none, (m - 1)⟩ hl hf' hs') := by
 refine spec_of Tryz.func129 rfl Tryz.ntmps129 Tryz.results129 _ (by simp) fun ι F => ?_
 refine vc_seq ?_
 refine vc_region ?_
 refine vp ?_
 refine vp ?_
 refine vc_nil ?_
 refine vc_then ?_
 refine vc_seq ?_
 refine vc_region ?_
 refine vp ?_
 refine vp ?_
 refine vc_callv ca_126 (us := []) (vs := []) rfl [_, _] rfl [0, 0, 0, 0] rfl (get_some hlen hR key hdsc hjd hn) rfl ?_
 rintro _ _ ⟨rfl, rfl⟩
 iterate 5 refine vp ?_
 refine vc_nil ?_
 refine vc_then ?_
 refine vc_seq ?_
 refine vc_seq ?_
 refine vc_region ?_
 refine vp ?_
 refine vp ?_
 refine vc_nil ?_
 refine vc_then ?_
 first | refine vc_condP rfl (fun c16 => ?_) (fun c16 => ?_) | refine vc_condN rfl (fun c16 => ?_) (fun c16 => ?_) | refine vc_cond rfl (fun c16 => ?_) (fun c16 => ?_)
 ·skip
  simp [getN, hf] at c16
 ·skip
  refine vc_skip ?_
  refine vc_then ?_
  refine vc_seq ?_
  refine vc_region ?_
  refine vp ?_
  refine vp ?_
  refine vc_y (y_fieldP fl_204_3 3 rfl rfl) rfl ?_
  refine vc_y (y_load1 0 rfl one_3 rfl (Pts.vis rfl)) rfl ?_
  refine vc_y (y_arith (m - 1) rfl (wrap64 (x := m - 1) (by omega) (by omega))) rfl ?_
  refine vp ?_
  refine vc_y (y_fieldP fl_204_3 3 rfl rfl) rfl ?_
  refine vc_storeP 0 rfl [_] [_, _, _, _] rfl rfl rfl sz_3 rfl rfl rfl ?_
  refine vc_nil ?_
  refine vc_then ?_
  refine vc_seq ?_
  refine vc_region ?_
  iterate 3 refine vp ?_
  refine vc_y (y_fieldP fl_204_2 2 rfl rfl) rfl ?_
  refine vc_y (y_load1 0 rfl one_3 rfl (Pts.vis rfl)) rfl ?_
  refine vp ?_
  refine vc_callv ca_161 (us := []) (vs := []) rfl [_, _, _] rfl [0, 0, 0, 0] rfl (del_spec (r := some r) (m := m - 1) hlen key fd r l1 fr1 hD) rfl ?_
  rintro _ _ ⟨hf1, hs1, ln1, rfl, rfl⟩
  obtain ⟨hr, hhr⟩ := getSome ln1 hdr
  refine vc_see 3 rfl ((Nodes.visK hhr hdr).imp fun w r => r.len) (fun ekr => ?_)
  refine vc_see 3 rfl ((Nodes.visN hhr hdr).imp fun w r => r.len) (fun enr => ?_)
  refine vc_see 3 rfl ((Nodes.visC hhr hdr).imp fun w r => r.len) (fun ecr => ?_)
  refine vc_nil ?_
  refine vc_then ?_
  refine vc_seq ?_
  refine vc_seq ?_
  refine vc_draw (by kernel_rfl) _ none [0, 0, 0, 0] rfl ?_
  refine tpp 0 ?_
  refine tpp 1 ?_
  refine tp 2 rfl (by exact y_fieldP fl_204_0 0 rfl rfl) ?_
  refine tk 3 rfl (by exact y_load1 0 rfl one_202 rfl (Pts.vis rfl)) ?_
  refine tpp 4 ?_
  refine tpp 5 ?_
  refine tp 6 rfl (by exact y_fieldP fl_204_2 2 rfl rfl) ?_
  refine tk 7 rfl (by exact y_load1 0 rfl one_3 rfl (Pts.vis rfl)) ?_
  refine tk 8 rfl (by exact y_elem 1 rfl (Sl.vis) r rfl (getLt hhr) sl_202 rfl rfl) ?_
  refine tk 9 rfl (by exact y_loadA 1 rfl (cs := [_, _, _]) ag_231 rfl (Rd.visA (Sl.vis) hhr rfl)) ?_
  refine va_ready [10] (by kernel_rfl) rfl ?_
  refine vo_cons rfl (fun hC0 => ?_) ?_
  ·skip
   refine vc_alloc [.slice none 0 0, .slice none 0 0, .slice none 0 0] ze_231 rfl rfl (fun b8 => ?_)
   refine vc_nil ?_
   refine vc_then ?_
   refine va_kept hC0 [1, 1, 1, 1] rfl ?_
   clear hC0
   refine va_ready [11] (by kernel_rfl) rfl ?_
   refine vo_cons rfl (fun hC0 => ?_) ?_
   ·skip
    refine vc_storeP 0 rfl [_, _, _] [_, _, _] rfl rfl rfl sz_231 rfl rfl rfl ?_
    refine vc_nil ?_
    refine vc_then ?_
    refine va_kept hC0 [1, 1, 1, 1] rfl ?_
    clear hC0
    refine va_done (by kernel_rfl) ?_
    refine vc_then ?_
    refine vc_block ?_
    refine vc_seq ?_
    refine vc_region ?_
    refine vc_y (y_fieldP fl_231_2 2 rfl rfl) rfl ?_
    refine vc_y (y_load1 0 rfl one_72 rfl (Pts.vis rfl)) rfl ?_
    refine vc_y (y_len Tryz.underlying72 rfl ecr) rfl ?_
    refine vp ?_
    refine vp ?_
    refine vc_nil ?_
    refine vc_then ?_
    first | refine vc_condP rfl (fun c41 => ?_) (fun c41 => ?_) | refine vc_condN rfl (fun c41 => ?_) (fun c41 => ?_) | refine vc_cond rfl (fun c41 => ?_) (fun c41 => ?_)
    ·skip
     rw [hk] at c41; simp at c41
    ·skip
     refine vc_seq ?_
     refine vc_region ?_
     refine vc_callv ca_163 (us := []) (vs := []) rfl [_] rfl [0] rfl (leaf_specD (h := hr) (d := dr) (by rw [add_lit]; exact Pts.vis rfl) ecr) rfl ?_
     rintro _ _ ⟨rfl, rfl⟩
     refine vp ?_
     first | refine vc_splitP 61 rfl (fun c61 => ?_) (fun c61 => ?_) | refine vc_splitN 61 rfl (fun c61 => ?_) (fun c61 => ?_) | refine vc_split 61 rfl (fun c61 => ?_) (fun c61 => ?_)
     ·skip
      refine vc_guardT 61 rfl rfl ?_
      refine vc_y (y_fieldP fl_231_0 0 rfl rfl) rfl ?_
      refine vc_guardT 61 rfl rfl ?_
      refine vc_y (y_load1 0 rfl one_136 rfl (Pts.vis rfl)) rfl ?_
      refine vc_guardT 61 rfl rfl ?_
      refine vc_y (y_len Tryz.underlying136 rfl ekr) rfl ?_
      refine vc_guardT 61 rfl rfl ?_
      iterate 3 refine vp ?_
      refine vc_nil ?_
      refine vc_then ?_
      first | refine vc_condP rfl (fun c59 => ?_) (fun c59 => ?_) | refine vc_condN rfl (fun c59 => ?_) (fun c59 => ?_) | refine vc_cond rfl (fun c59 => ?_) (fun c59 => ?_)
      ·skip
       refine vc_seq ?_
       refine vc_region ?_
       iterate 3 refine vp ?_
       refine vc_y (y_fieldP fl_204_2 2 rfl rfl) rfl ?_
       refine vc_y (y_load1 1 rfl one_3 rfl (Pts.vis rfl)) rfl ?_
       refine vc_openN 4 rfl hhr hdr ?_
       refine vc_callv ca_162 (us := []) (vs := []) rfl [_, _] rfl [5, 5, 5] rfl (drop_core hhr hfr) rfl ?_
       rintro _ _ ⟨hf', rfl, rfl⟩
       refine vc_nil ?_
       refine vc_then ?_
       refine vc_region ?_
       refine vp ?_
       refine vp ?_
       refine vc_y (y_fieldP fl_204_2 2 rfl rfl) rfl ?_
       refine vc_storeP 0 rfl [_] [_, _, _, _] rfl rfl rfl sz_3 rfl rfl rfl ?_
       refine vc_nil ?_
       refine vc_inNormal ?_
       refine vc_then ?_
       refine vc_seq ?_
       refine vc_region ?_
       iterate 3 refine vp ?_
       refine vc_nil ?_
       refine vc_then ?_
       refine vc_ret ?_
       exact vc_end2 Tryz.results129 rfl rfl _ (by simp only [TO, ← NodesX.nil]; exact ent_at [0, 0, 0, 3] rfl (ent_cons (ent_cons (ent_cons (Ent.trans (Ent.empL.trans ((Ent.sep NodeC.nil Ent.rfl).trans Ent.assoc')) (Ent.sep (NodesX.into (ho := []) (hs' := hs1.set r nil3) (ds' := l1.set r nd0) List.not_mem_nil (List.getElem?_set_self (getLt hhr)) (List.getElem?_set_self (getLt hdr)) List.length_set (fun j hj _ => List.getElem?_set_ne (Ne.symm hj)) (fun j hj _ => List.getElem?_set_ne (Ne.symm hj))) Ent.rfl)))))) ⟨hf', hs1.set r nil3, by simp [ln1], by simp [getN, hf], rfl⟩
      ·skip
       rw [hk2] at c59; simp at c59
     ·skip
      exact absurd hk c61
   exact vo_nil
  exact vo_nil
theorem Del_stay {b : Nat} {l : List Nd} {fr : List Nat} {r : Nat} {m : Int} {hl hf0 : SH} {hs : List Nd3} (hlen : hs.length = l.length) (hR : RiseAll l) (key : ByteArray) {fu jl : Nat} {d : Nd} (hdsc : dsc fu l r key = some jl) (hjd : l[jl]? = some d) (hn : d.nums.length = d.keys.length) (hf : fnd d.keys key = true) (hm0 : 0 ≤ m) (hm : m ≤ 100000) {fd : Nat} {l1 : List Nd} {fr1 : List Nat} {dr : Nd} (hD : DelR key fd l fr r l1 fr1) (hdr : l1[r]? = some dr) (hfr : fr1.length ≤ 1000000) (hk : dr.kids.length ≠ 1) (hk2 : dr.kids = [] → dr.keys ≠ []) :
  Does Tryz.prog 129 [.pointer (some ⟨b, 0, none⟩), .string key] (TO b ⟨l, fr, some r, m⟩ hl hf0 hs) (fun v l2 => ∃ hf' hs', hs'.length = (l1).length ∧ v = .tuple #[.int .i64 (d.nums.getD (lb d.keys key) 0), .bool true] ∧ l2 = TO b ⟨l1, fr1, some r, (m - 1)⟩ hl hf' hs') := by
 refine spec_of Tryz.func129 rfl Tryz.ntmps129 Tryz.results129 _ (by simp) fun ι F => ?_
 refine vc_seq ?_
 refine vc_region ?_
 refine vp ?_
 refine vp ?_
 refine vc_nil ?_
 refine vc_then ?_
 refine vc_seq ?_
 refine vc_region ?_
 refine vp ?_
 refine vp ?_
 refine vc_callv ca_126 (us := []) (vs := []) rfl [_, _] rfl [0, 0, 0, 0] rfl (get_some hlen hR key hdsc hjd hn) rfl ?_
 rintro _ _ ⟨rfl, rfl⟩
 iterate 5 refine vp ?_
 refine vc_nil ?_
 refine vc_then ?_
 refine vc_seq ?_
 refine vc_seq ?_
 refine vc_region ?_
 refine vp ?_
 refine vp ?_
 refine vc_nil ?_
 refine vc_then ?_
 first | refine vc_condP rfl (fun c16 => ?_) (fun c16 => ?_) | refine vc_condN rfl (fun c16 => ?_) (fun c16 => ?_) | refine vc_cond rfl (fun c16 => ?_) (fun c16 => ?_)
 ·skip
  simp [getN, hf] at c16
 ·skip
  refine vc_skip ?_
  refine vc_then ?_
  refine vc_seq ?_
  refine vc_region ?_
  refine vp ?_
  refine vp ?_
  refine vc_y (y_fieldP fl_204_3 3 rfl rfl) rfl ?_
  refine vc_y (y_load1 0 rfl one_3 rfl (Pts.vis rfl)) rfl ?_
  refine vc_y (y_arith (m - 1) rfl (wrap64 (x := m - 1) (by omega) (by omega))) rfl ?_
  refine vp ?_
  refine vc_y (y_fieldP fl_204_3 3 rfl rfl) rfl ?_
  refine vc_storeP 0 rfl [_] [_, _, _, _] rfl rfl rfl sz_3 rfl rfl rfl ?_
  refine vc_nil ?_
  refine vc_then ?_
  refine vc_seq ?_
  refine vc_region ?_
  iterate 3 refine vp ?_
  refine vc_y (y_fieldP fl_204_2 2 rfl rfl) rfl ?_
  refine vc_y (y_load1 0 rfl one_3 rfl (Pts.vis rfl)) rfl ?_
  refine vp ?_
  refine vc_callv ca_161 (us := []) (vs := []) rfl [_, _, _] rfl [0, 0, 0, 0] rfl (del_spec (r := some r) (m := m - 1) hlen key fd r l1 fr1 hD) rfl ?_
  rintro _ _ ⟨hf1, hs1, ln1, rfl, rfl⟩
  obtain ⟨hr, hhr⟩ := getSome ln1 hdr
  refine vc_see 3 rfl ((Nodes.visK hhr hdr).imp fun w r => r.len) (fun ekr => ?_)
  refine vc_see 3 rfl ((Nodes.visN hhr hdr).imp fun w r => r.len) (fun enr => ?_)
  refine vc_see 3 rfl ((Nodes.visC hhr hdr).imp fun w r => r.len) (fun ecr => ?_)
  refine vc_nil ?_
  refine vc_then ?_
  refine vc_seq ?_
  refine vc_seq ?_
  refine vc_draw (by kernel_rfl) _ none [0, 0, 0, 0] rfl ?_
  refine tpp 0 ?_
  refine tpp 1 ?_
  refine tp 2 rfl (by exact y_fieldP fl_204_0 0 rfl rfl) ?_
  refine tk 3 rfl (by exact y_load1 0 rfl one_202 rfl (Pts.vis rfl)) ?_
  refine tpp 4 ?_
  refine tpp 5 ?_
  refine tp 6 rfl (by exact y_fieldP fl_204_2 2 rfl rfl) ?_
  refine tk 7 rfl (by exact y_load1 0 rfl one_3 rfl (Pts.vis rfl)) ?_
  refine tk 8 rfl (by exact y_elem 1 rfl (Sl.vis) r rfl (getLt hhr) sl_202 rfl rfl) ?_
  refine tk 9 rfl (by exact y_loadA 1 rfl (cs := [_, _, _]) ag_231 rfl (Rd.visA (Sl.vis) hhr rfl)) ?_
  refine va_ready [10] (by kernel_rfl) rfl ?_
  refine vo_cons rfl (fun hC0 => ?_) ?_
  ·skip
   refine vc_alloc [.slice none 0 0, .slice none 0 0, .slice none 0 0] ze_231 rfl rfl (fun b8 => ?_)
   refine vc_nil ?_
   refine vc_then ?_
   refine va_kept hC0 [1, 1, 1, 1] rfl ?_
   clear hC0
   refine va_ready [11] (by kernel_rfl) rfl ?_
   refine vo_cons rfl (fun hC0 => ?_) ?_
   ·skip
    refine vc_storeP 0 rfl [_, _, _] [_, _, _] rfl rfl rfl sz_231 rfl rfl rfl ?_
    refine vc_nil ?_
    refine vc_then ?_
    refine va_kept hC0 [1, 1, 1, 1] rfl ?_
    clear hC0
    refine va_done (by kernel_rfl) ?_
    refine vc_then ?_
    refine vc_block ?_
    refine vc_seq ?_
    refine vc_region ?_
    refine vc_y (y_fieldP fl_231_2 2 rfl rfl) rfl ?_
    refine vc_y (y_load1 0 rfl one_72 rfl (Pts.vis rfl)) rfl ?_
    refine vc_y (y_len Tryz.underlying72 rfl ecr) rfl ?_
    refine vp ?_
    refine vp ?_
    refine vc_nil ?_
    refine vc_then ?_
    first | refine vc_condP rfl (fun c41 => ?_) (fun c41 => ?_) | refine vc_condN rfl (fun c41 => ?_) (fun c41 => ?_) | refine vc_cond rfl (fun c41 => ?_) (fun c41 => ?_)
    ·skip
     omega
    ·skip
     refine vc_seq ?_
     refine vc_region ?_
     refine vc_callv ca_163 (us := []) (vs := []) rfl [_] rfl [0] rfl (leaf_specD (h := hr) (d := dr) (by rw [add_lit]; exact Pts.vis rfl) ecr) rfl ?_
     rintro _ _ ⟨rfl, rfl⟩
     refine vp ?_
     first | refine vc_splitP 61 rfl (fun c61 => ?_) (fun c61 => ?_) | refine vc_splitN 61 rfl (fun c61 => ?_) (fun c61 => ?_) | refine vc_split 61 rfl (fun c61 => ?_) (fun c61 => ?_)
     ·skip
      have hk3 : dr.keys.length ≠ 0 := fun h0 => hk2 c61 (List.eq_nil_of_length_eq_zero h0)
      refine vc_guardT 61 rfl rfl ?_
      refine vc_y (y_fieldP fl_231_0 0 rfl rfl) rfl ?_
      refine vc_guardT 61 rfl rfl ?_
      refine vc_y (y_load1 0 rfl one_136 rfl (Pts.vis rfl)) rfl ?_
      refine vc_guardT 61 rfl rfl ?_
      refine vc_y (y_len Tryz.underlying136 rfl ekr) rfl ?_
      refine vc_guardT 61 rfl rfl ?_
      iterate 3 refine vp ?_
      refine vc_nil ?_
      refine vc_then ?_
      first | refine vc_condP rfl (fun c59 => ?_) (fun c59 => ?_) | refine vc_condN rfl (fun c59 => ?_) (fun c59 => ?_) | refine vc_cond rfl (fun c59 => ?_) (fun c59 => ?_)
      ·skip
       omega
      ·skip
       refine vc_skip ?_
       refine vc_inNormal ?_
       refine vc_then ?_
       refine vc_seq ?_
       refine vc_region ?_
       iterate 3 refine vp ?_
       refine vc_nil ?_
       refine vc_then ?_
       refine vc_ret ?_
       exact vc_end2 Tryz.results129 rfl rfl _ (ent_pick [1, 1, 1, 1] rfl) ⟨hf1, hs1, ln1, by simp [getN, hf], rfl⟩
     ·skip
      refine vc_guardF 61 rfl rfl rfl rfl ?_
      refine vc_guardF 61 rfl rfl rfl rfl ?_
      refine vc_guardF 61 rfl rfl rfl rfl ?_
      refine vc_guardF 61 rfl rfl rfl rfl ?_
      refine vp ?_
      refine vp ?_
      refine vc_nil ?_
      refine vc_then ?_
      refine vc_condF rfl ?_
      refine vc_skip ?_
      refine vc_inNormal ?_
      refine vc_then ?_
      refine vc_seq ?_
      refine vc_region ?_
      iterate 3 refine vp ?_
      refine vc_nil ?_
      refine vc_then ?_
      refine vc_ret ?_
      exact vc_end2 Tryz.results129 rfl rfl _ (ent_pick [1, 1, 1, 1] rfl) ⟨hf1, hs1, ln1, by simp [getN, hf], rfl⟩
   exact vo_nil
  exact vo_nil
end Go.Proofs.YtcpbibdbahfgaaaGreat
namespace Go.Proofs.YtcpbibdbahfgaaaGreat
open Go.Eng
structure Inv (S : TS) (m : Con) : Prop where
 rise : Rise (ks m)
 n : S.n = (m.length : Int)
 le : m.length ≤ 100000
 free : ∀ j ∈ S.free, ∃ d, S.l[j]? = some d ∧ Good d
 shape : (S.root = none ∧ m = [] ∧ S.free.Perm (List.range S.l.length)) ∨ ∃ r h fp z, S.root = some r ∧ Rep h S.l r m fp z ∧ 1 ≤ z ∧ z ≤ 4 ∧ (h = 0 ∨ 2 ≤ z) ∧ (fp ++ S.free).Perm (List.range S.l.length)
 len : S.l.length ≤ 200000
theorem riseAll {l : List Nd} (h : ∀ (i : Nat) (d : Nd), l[i]? = some d → Good d) : RiseAll l := fun i d e => by
 have := h i d e
 exact ⟨this.rise, by have := this.k; omega, by have := this.c; omega⟩
theorem Inv.all {S : TS} {m : Con} (I : Inv S m) : RiseAll S.l := riseAll fun i d e => by
 have hi := getLt e
 rcases I.shape with ⟨h1, h2, h3⟩ | ⟨r, h, fp, z, h1, h2, h3, h4, h5, h6⟩
 ·obtain ⟨d', e', g⟩ := I.free i (h3.mem_iff.2 (List.mem_range.2 hi))
  rw [e] at e'; obtain rfl := Option.some.inj e'; exact g
 ·rcases List.mem_append.1 (h6.mem_iff.2 (List.mem_range.2 hi)) with hx | hx
  ·obtain ⟨d', e', g⟩ := h2.all I.rise (by omega) i hx
   rw [e] at e'; obtain rfl := Option.some.inj e'; exact g
  ·obtain ⟨d', e', g⟩ := I.free i hx
   rw [e] at e'; obtain rfl := Option.some.inj e'; exact g
def TreeC (b : Nat) (m : Con) : HP := ex (fun x : TS × SH × SH × List Nd3 => sep (lift (Inv x.1 m ∧ x.2.2.2.length = x.1.l.length)) (seps (TO b x.1 x.2.1 x.2.2.1 x.2.2.2)))
theorem ent_tree {b : Nat} {m : Con} {S : TS} {hl hf : SH} {hs : List Nd3} (I : Inv S m) (hlen : hs.length = S.l.length) {r : List HP} : Ent (seps (seps (TO b S hl hf hs) :: r)) (seps (TreeC b m :: r)) :=
 (ent_lift (p := Inv S m ∧ hs.length = S.l.length) ⟨I, hlen⟩).trans (ent_ex (f := fun x : TS × SH × SH × List Nd3 => sep (lift (Inv x.1 m ∧ x.2.2.2.length = x.1.l.length)) (seps (TO b x.1 x.2.1 x.2.2.1 x.2.2.2))) (S, hl, hf, hs))
theorem ent_wrap {l : List HP} : Ent (seps l) (seps [seps l]) := Ent.empL.trans Ent.comm
theorem tree_does {f : FuncId} {args : List Value} {b : Nat} {m : Con} {R : Value → Con → Prop}
  (h : ∀ S hl hf hs, Inv S m → hs.length = S.l.length → Does Tryz.prog f args (TO b S hl hf hs) (fun v l => ∃ S' hl' hf' hs' m', Inv S' m' ∧ hs'.length = S'.l.length ∧ l = TO b S' hl' hf' hs' ∧ R v m')) :
  Does Tryz.prog f args [TreeC b m] (fun v l => ∃ m', R v m' ∧ l = [TreeC b m']) := by
 refine Does.ex1 fun ⟨S, hl, hf, hs⟩ => Does.lift1 fun ⟨I, hlen⟩ => ?_
 refine Does.pre Ent.left (Does.fin (h S hl hf hs I hlen) ?_)
 rintro v l ⟨S', hl', hf', hs', m', I', hlen', rfl, hR⟩
 exact ⟨[TreeC b m'], ent_wrap.trans (ent_tree I' hlen'), m', hR, rfl⟩
theorem tree_reads {f : FuncId} {args : List Value} {b : Nat} {m : Con} {R : Value → Prop}
  (h : ∀ S hl hf hs, Inv S m → hs.length = S.l.length → Does Tryz.prog f args (TO b S hl hf hs) (fun v l => R v ∧ l = TO b S hl hf hs)) :
  Does Tryz.prog f args [TreeC b m] (fun v l => R v ∧ l = [TreeC b m]) :=
 (tree_does (R := fun v m' => R v ∧ m' = m) fun S hl hf hs I hlen => (h S hl hf hs I hlen).imp fun v l ⟨hR, hl⟩ => ⟨S, _, _, _, m, I, hlen, hl, hR, rfl⟩).imp fun v l ⟨m', ⟨hR, hm⟩, hl⟩ => ⟨hR, by rw [hl, hm]⟩
theorem tree_new : Does Tryz.prog 115 [] [] (fun v l => ∃ b, v = .pointer (some ⟨b, 0, none⟩) ∧ l = [TreeC b []]) := by
 refine Does.fin new_spec ?_
 rintro v l ⟨b, rfl, rfl⟩
 have I : Inv ⟨[], [], none, 0⟩ [] := ⟨trivial, rfl, by simp, by simp, .inl ⟨rfl, rfl, by simp⟩, by simp⟩
 exact ⟨[TreeC b []], ent_wrap.trans (ent_tree I rfl), b, rfl, rfl⟩
theorem look_none {m : Con} {key : ByteArray} (h : fnd (ks m) key = false) : Eng.look m key = none := by simp [Eng.look, h]
def lookV (m : Con) (key : ByteArray) : Value := .tuple #[.int .i64 ((Eng.look m key).getD 0), .bool (Eng.look m key).isSome]
theorem getN_look {d : Nd} {key : ByteArray} {m A B : Con} (hn : d.nums.length = d.keys.length) (hm : m = A ++ (d.keys.zip d.nums ++ B)) (hA : ∀ x ∈ ks A, sLt x key = true) (hB : ∀ x ∈ ks B, sLt key x = true) : getN d key = ((Eng.look m key).getD 0, (Eng.look m key).isSome) := by
 rw [hm, look_mid hA hB, look_zip hn]
 unfold getN
 cases hf : fnd d.keys key with
 | false => rfl
 | true =>
  have hlt := fnd_lt0 hf
  simp only [if_true]
  rw [List.getElem?_eq_getElem (by omega), List.getD_eq_getElem?_getD, List.getElem?_eq_getElem (by omega)]
  simp
theorem tree_get {b : Nat} {m : Con} (key : ByteArray) : Does Tryz.prog 126 [.pointer (some ⟨b, 0, none⟩), .string key] [TreeC b m] (fun v l => v = lookV m key ∧ l = [TreeC b m]) := by
 refine tree_reads fun S hl hf hs I hlen => ?_
 obtain ⟨l, fr, root, n⟩ := S
 rcases I.shape with ⟨h1, h2, h3⟩ | ⟨r, h, fp, z, h1, h2, h3, h4, h5, h6⟩
 ·obtain rfl : root = none := h1
  subst h2
  exact get_none key
 ·obtain rfl : root = some r := h1
  obtain ⟨jl, d, A, B, f1, f2, f3, f4, f5, f6, f7⟩ := h2.dsc (key := key) I.rise
  refine (get_some hlen I.all key f1 f2 f4).imp fun v l ⟨e1, e2⟩ => ⟨?_, e2⟩
  rw [e1, getN_look f4 f5 f6 f7]; rfl
theorem tree_len {b : Nat} {m : Con} : Does Tryz.prog 125 [.pointer (some ⟨b, 0, none⟩)] [TreeC b m] (fun v l => v = .int .i64 (m.length : Int) ∧ l = [TreeC b m]) := by
 refine tree_reads fun S hl hf hs I hlen => ?_
 obtain ⟨l, fr, root, n⟩ := S
 refine len_spec.imp fun v l ⟨e1, e2⟩ => ⟨?_, e2⟩
 rw [e1, ← I.n]
theorem tree_seek {b : Nat} {m : Con} (key : ByteArray) : Does Tryz.prog 138 [.pointer (some ⟨b, 0, none⟩), .string key] [TreeC b m] (fun v l => v = resV (nxt m key false) ∧ l = [TreeC b m]) := by
 refine tree_reads fun S hl hf hs I hlen => ?_
 obtain ⟨l, fr, root, n⟩ := S
 rcases I.shape with ⟨h1, h2, h3⟩ | ⟨r, h, fp, z, h1, h2, h3, h4, h5, h6⟩
 ·obtain rfl : root = none := h1
  subst h2
  exact seek_none key
 ·obtain rfl : root = some r := h1
  exact seek_some hlen I.all key (h2.fst I.rise)
theorem tree_after {b : Nat} {m : Con} (key : ByteArray) : Does Tryz.prog 82 [.pointer (some ⟨b, 0, none⟩), .string key] [TreeC b m] (fun v l => v = resV (nxt m key true) ∧ l = [TreeC b m]) := by
 refine tree_reads fun S hl hf hs I hlen => ?_
 obtain ⟨l, fr, root, n⟩ := S
 rcases I.shape with ⟨h1, h2, h3⟩ | ⟨r, h, fp, z, h1, h2, h3, h4, h5, h6⟩
 ·obtain rfl : root = none := h1
  subst h2
  exact after_none key
 ·obtain rfl : root = some r := h1
  exact after_some hlen I.all key (h2.fst I.rise)
theorem nodup_range_perm {X : List Nat} {N : Nat} (h : X.Perm (List.range N)) : X.Nodup ∧ (∀ j ∈ X, j < N) ∧ X.length = N :=
 ⟨h.nodup_iff.2 List.nodup_range, fun j hj => List.mem_range.1 (h.mem_iff.1 hj), by simpa using h.length_eq⟩
theorem range_perm {X X' : List Nat} {N N' : Nat} (h : X'.Perm (X ++ List.range' N (N' - N))) (hN : N ≤ N') (hX : X.Perm (List.range N)) : X'.Perm (List.range N') := by
 refine h.trans ((hX.append_right _).trans ?_)
 rw [List.range_eq_range', List.range_eq_range']
 have := List.range'_append_1 (s := 0) (m := N) (n := N' - N)
 rw [Nat.zero_add, show N + (N' - N) = N' by omega] at this
 rw [this]
theorem Inv.put {l l' : List Nd} {fr fr' : List Nat} {root : Option Nat} {n : Int} {m : Con} {key : ByteArray} {k : Int} {r h : Nat} {fp' : List Nat} {z : Nat} (I : Inv ⟨l, fr, root, n⟩ m) (hk : key ∉ ks m) (hm : m.length < 100000)
  (hr : Rep h l' r (ins m key k) fp' z) (h1 : 1 ≤ z ∧ z ≤ 4) (h2 : h = 0 ∨ 2 ≤ z) (hp : (fp' ++ fr').Perm (List.range l'.length)) (hl : l.length ≤ l'.length) (hf : ∀ j ∈ fr', j ∈ fr ∧ l'[j]? = l[j]?) (hn : l.length < l'.length → fr' = []) : Inv ⟨l', fr', some r, n + 1⟩ (ins m key k) := by
 have hil := ins_len (M := m) (k := key) (n := k)
 refine ⟨rise_ins I.rise hk, ?_, by omega, fun j hj => ?_, .inr ⟨r, h, fp', z, rfl, hr, h1.1, h1.2, h2, hp⟩, ?_⟩
 ·have := I.n
  simp only at this ⊢
  rw [this, hil]; omega
 ·obtain ⟨h1, h2⟩ := hf j hj
  obtain ⟨d, e, g⟩ := I.free j h1
  exact ⟨d, by rw [← e]; exact h2, g⟩
 ·have hl0 := I.len
  simp only at hl0 ⊢
  by_cases hx : l.length < l'.length
  ·have hfe := hn hx
   subst hfe
   have h3 := (nodup_range_perm hp).2.2
   have h4 := (hr.count ⟨h1.1, h2⟩).1
   rw [List.append_nil] at h3
   omega
  ·omega
theorem tree_put {b : Nat} {m : Con} (key : ByteArray) (k : Int) (hk : key ∉ ks m) (hm : m.length < 100000) : Does Tryz.prog 130 [.pointer (some ⟨b, 0, none⟩), .string key, .int .i64 k] [TreeC b m] (fun v l => v = .tuple #[.int .i64 0, .bool false, .int .i64 0] ∧ l = [TreeC b (ins m key k)]) := by
 refine Does.imp (tree_does (R := fun v m' => v = .tuple #[.int .i64 0, .bool false, .int .i64 0] ∧ m' = ins m key k) fun S hl hf hs I hlen => ?_) (fun v l ⟨m', ⟨h1, h2⟩, h3⟩ => ⟨h1, by rw [h3, h2]⟩)
 obtain ⟨l, fr, root, n⟩ := S
 have hn := I.n
 have hll := I.len
 simp only at hn hll
 rcases I.shape with ⟨h1, h2, h3⟩ | ⟨r, h, fp, z, h1, h2, h3, h4, h5, h6⟩
 ·obtain rfl : root = none := h1
  have hP := nodup_range_perm h3
  obtain ⟨k', l', fr', a1, a2, a3, a4, a5, a6, a7⟩ := add_ex l fr ⟨[key], [k], []⟩ hP.2.1 (by omega) (by have := hP.2.2; simp only at this; omega)
  refine (put_first hlen key k (by omega) (by omega) a1).imp ?_
  rintro v l2 ⟨hl', hf', hs', e1, e2, e3⟩
  have hR : Rep 0 l' k' (ins m key k) [k'] 1 := ⟨_, a2, rfl, rfl, by rw [h2]; rfl, rfl, rfl⟩
  refine ⟨⟨l', fr', some k', n + 1⟩, hl', hf', hs', _, I.put hk hm hR ⟨by omega, by omega⟩ (.inl rfl) ?_ a4 (fun j hj => ?_) (fun hx => ?_), e1, e3, e2, rfl⟩
  ·refine range_perm ?_ a4 h3
   rcases a7 with ⟨e, e2⟩ | ⟨e, e2, e3, e4⟩
   ·simp only [e, e2, Nat.sub_self, List.range'_zero, List.append_nil]
    exact List.perm_append_comm
   ·simp only [e, e2, e4, Nat.add_sub_cancel_left, e3]
    exact List.Perm.refl _
  ·rcases a7 with ⟨e, e2⟩ | ⟨e, e2, e3, e4⟩
   ·have hjf : j ∈ fr := by rw [e]; exact List.mem_append_left _ hj
    refine ⟨hjf, a6 j ?_ (hP.2.1 j hjf)⟩
    have := hP.1
    simp only at this
    rw [e, List.nodup_append] at this
    exact this.2.2 j hj k' (by simp)
   ·rw [e2] at hj; cases hj
  ·rcases a7 with ⟨e, e2⟩ | ⟨e, e2, e3, e4⟩
   ·omega
   ·exact e2
 ·obtain rfl : root = some r := h1
  have hP := nodup_range_perm h6
  simp only at hP h2
  obtain ⟨jl, d, A, B, f1, f2, f3, f4, f5, f6, f7⟩ := h2.dsc (key := key) I.rise
  have hfk : fnd d.keys key = false := by
   cases hq : fnd (ks m) key with
   | true => exact absurd ((fnd_iff I.rise).1 hq) hk
   | false => rw [f5, fnd_mid f6 f7, ks_zip f4] at hq; exact hq
  have hfl : fr.length ≤ l.length := by have := hP.2.2; rw [List.length_append] at this; omega
  have hhm := (h2.count ⟨h3, h5⟩).2
  obtain ⟨l1, fr1, fp1, y, Q⟩ := put_rep (key := key) (n := k) h2 h4 I.rise hk hP.1 hP.2.1 (by omega) (by omega)
  have hri := rise_ins (n := k) I.rise hk
  have hz := Q.zz
  have hql := Q.len
  obtain ⟨dc, hdc, hsz, hgc⟩ := Q.rep.good hri (by omega)
  have hp1 := range_perm Q.perm Q.len.1 h6
  by_cases hy : y ≤ 4
  ·refine (put_new hlen I.all key k f1 f2 hfk (by omega) (by omega) Q.r hdc hgc (.inl ⟨by omega, rfl, rfl, rfl⟩)).imp ?_
   rintro v l2 ⟨hl', hf', hs', e1, e2, e3⟩
   refine ⟨⟨l1, fr1, some r, n + 1⟩, hl', hf', hs', _, I.put hk hm Q.rep ⟨by omega, hy⟩ (by omega) hp1 Q.len.1 Q.fre Q.new, e1, e3, e2, rfl⟩
  ·have hP1 := nodup_range_perm hp1
   have hfl1 := Q.frl
   obtain ⟨k2, s, l2, fr2, A2, B2, fA, fB, zA, zB, S⟩ := split_rep Q.rep (by omega) (by omega) hri hP1.1 hP1.2.1 (by omega) (by omega)
   have hp2 := range_perm S.perm S.len.1 hp1
   have hP2 := nodup_range_perm hp2
   have hsl := S.len
   have hsf := S.frl
   obtain ⟨k3, l3, fr3, a1, a2, a3, a4, a5, a6, a7⟩ := add_ex l2 fr2 ⟨[s], [], [r, k2]⟩ (fun j hj => hP2.2.1 j (List.mem_append_right _ hj)) (by omega) (by omega)
   refine (put_new hlen I.all key k f1 f2 hfk (by omega) (by omega) Q.r hdc hgc (.inr ⟨by omega, k2, s, l2, fr2, k3, S.r, a1, rfl⟩)).imp ?_
   rintro v l4 ⟨hl', hf', hs', e1, e2, e3⟩
   have hk3 : ∀ j ∈ fA ++ fB, j ≠ k3 ∧ j < l2.length := fun j hj => by
    refine ⟨fun e => ?_, hP2.2.1 j (List.mem_append_left _ hj)⟩
    rcases a7 with ⟨e', _⟩ | ⟨_, _, e', _⟩
    ·have := hP2.1
     rw [List.nodup_append] at this
     exact this.2.2 j hj k3 (by rw [e']; simp) e
    ·have := hP2.2.1 j (List.mem_append_left _ hj); omega
   have fr3' : ∀ j ∈ fA ++ fB, l3[j]? = l2[j]? := fun j hj => a6 j (hk3 j hj).1 (hk3 j hj).2
   have hR : Rep (h + 1) l3 k3 (ins m key k) (k3 :: (fA ++ fB)) 2 := by
    refine ⟨_, [⟨r, A2, fA⟩, ⟨k2, B2, fB⟩], a2, rfl, rfl, by rw [S.m]; simp [allM], by simp [allF], rfl, ⟨S.la, by simpa [allM] using S.gb, trivial⟩, fun x hx => ?_⟩
    simp only [List.mem_cons, List.not_mem_nil, or_false] at hx
    rcases hx with rfl | rfl
    ·exact ⟨zA, S.za.1, S.za.2, S.a.frame fun j hj => fr3' j (List.mem_append_left _ hj)⟩
    ·exact ⟨zB, S.zb.1, S.zb.2, S.b.frame fun j hj => fr3' j (List.mem_append_right _ hj)⟩
   refine ⟨⟨l3, fr3, some k3, n + 1⟩, hl', hf', hs', _, I.put hk hm hR ⟨by omega, by omega⟩ (.inr (by omega)) ?_ (by omega) (fun j hj => ?_) (fun hx => ?_), e1, e3, e2, rfl⟩
   ·refine range_perm ?_ a4 hp2
    rcases a7 with ⟨e, e2⟩ | ⟨e, e2, e3, e4⟩
    ·rw [e, e2, Nat.sub_self, List.range'_zero, List.append_nil]
     have : (k3 :: (fA ++ fB) ++ fr3).Perm ((fA ++ fB ++ fr3) ++ [k3]) := List.perm_append_comm (l₁ := [k3])
     rwa [List.append_assoc (fA ++ fB) fr3 [k3]] at this
    ·rw [e, e2, e3, e4, Nat.add_sub_cancel_left, List.append_nil, List.append_nil]
     exact List.perm_append_comm (l₁ := [l2.length])
   ·have hj2 : j ∈ fr2 ∧ j ≠ k3 := by
     rcases a7 with ⟨e, e2⟩ | ⟨e, e2, e3, e4⟩
     ·refine ⟨by rw [e]; exact List.mem_append_left _ hj, ?_⟩
      have := hP2.1
      rw [List.nodup_append, e] at this
      have := this.2.1
      rw [List.nodup_append] at this
      exact this.2.2 j hj k3 (by simp)
     ·rw [e2] at hj; cases hj
    have hs := S.fre j hj2.1
    have hq := Q.fre j hs.1
    exact ⟨hq.1, by rw [a6 j hj2.2 (hP2.2.1 j (List.mem_append_right _ hj2.1)), hs.2, hq.2]⟩
   ·have e0 : fr2 = [] → fr3 = [] := fun h0 => by
     rcases a7 with ⟨e, e2⟩ | ⟨e, e2, e3, e4⟩
     ·rw [h0] at e; simp at e
     ·exact e2
    by_cases c1 : l.length < l1.length
    ·have := Q.new c1
     rw [this] at hsf
     exact e0 (List.length_eq_zero_iff.1 (by simpa using hsf))
    ·by_cases c2 : l1.length < l2.length
     ·exact e0 (S.new c2)
     ·rcases a7 with ⟨e, e2⟩ | ⟨e, e2, e3, e4⟩
      ·omega
      ·exact e2
theorem tree_del {b : Nat} {m : Con} (key : ByteArray) (hk : key ∈ ks m) : Does Tryz.prog 129 [.pointer (some ⟨b, 0, none⟩), .string key] [TreeC b m] (fun v l => v = lookV m key ∧ l = [TreeC b (dlt m key)]) := by
 refine Does.imp (tree_does (R := fun v m' => v = lookV m key ∧ m' = dlt m key) fun S hl hf hs I hlen => ?_) (fun v l ⟨m', ⟨h1, h2⟩, h3⟩ => ⟨h1, by rw [h3, h2]⟩)
 obtain ⟨l, fr, root, n⟩ := S
 have hn := I.n
 have hll := I.len
 have hle := I.le
 simp only at hn hll
 rcases I.shape with ⟨h1, h2, h3⟩ | ⟨r, h, fp, z, h1, h2, h3, h4, h5, h6⟩
 ·rw [h2] at hk; simp [ks] at hk
 ·obtain rfl : root = some r := h1
  have hP := nodup_range_perm h6
  simp only at hP h2
  obtain ⟨jl, d, A, B, f1, f2, f3, f4, f5, f6, f7⟩ := h2.dsc (key := key) I.rise
  have hfm := (fnd_iff I.rise).2 hk
  have hfk : fnd d.keys key = true := by
   have hq := hfm
   rw [f5, fnd_mid f6 f7, ks_zip f4] at hq; exact hq
  have hv : ∀ v : Value, v = .tuple #[.int .i64 (d.nums.getD (lb d.keys key) 0), .bool true] → v = lookV m key := fun v e => by
   have := getN_look f4 f5 f6 f7
   simp only [getN, hfk, if_true] at this
   rw [e]; unfold lookV
   rw [← (Prod.mk.inj this).1, ← (Prod.mk.inj this).2]
  have hfl : fr.length ≤ l.length := by have := hP.2.2; rw [List.length_append] at this; omega
  have hhm := (h2.count ⟨h3, h5⟩).2
  obtain ⟨l1, fr1, fp1, y, Q⟩ := del_rep (key := key) h2 ⟨h3, h5⟩ h4 I.rise hk hP.1 (by omega)
  have hrd := rise_dlt (k := key) I.rise
  have hz := Q.zz
  have hql := Q.len
  have hqf := Q.frl
  obtain ⟨dr, hdr, hsz, hgr⟩ := Q.rep.good hrd (by omega)
  have hp1 : (fp1 ++ fr1).Perm (List.range l1.length) := by rw [hql]; exact Q.perm.trans h6
  have hP1 := nodup_range_perm hp1
  have hlt : lb (ks m) key < m.length := by have := fnd_lt0 hfm; rwa [ks_length] at this
  have hdl : (dlt m key).length + 1 = m.length := by simp [dlt]; omega
  have hfree : ∀ j ∈ fr1, ∃ d, l1[j]? = some d ∧ Good d := fun j hj => by
   rcases Q.fre j hj with hx | hx
   ·obtain ⟨d, e, g⟩ := I.free j hx
    refine ⟨d, ?_, g⟩
    rw [Q.out j fun h0 => ?_]
    ·exact e
    ·have := hP.1
     rw [List.nodup_append] at this
     exact this.2.2 j h0 j hx rfl
   ·exact ⟨_, hx, trivial, by simp [nd0], by simp [nd0], by simp [nd0]⟩
  have hrl := getLt hdr
  have hgn : Good nd0 := ⟨trivial, by simp [nd0], by simp [nd0], by simp [nd0]⟩
  have hfree2 : ∀ j ∈ fr1 ++ [r], ∃ d, (l1.set r nd0)[j]? = some d ∧ Good d := fun j hj => by
   by_cases hjr : j = r
   ·subst hjr; exact ⟨nd0, List.getElem?_set_self hrl, hgn⟩
   ·rw [List.getElem?_set_ne (Ne.symm hjr)]
    rcases List.mem_append.1 hj with hj | hj
    ·exact hfree j hj
    ·simp at hj; exact absurd hj hjr
  cases h with
  | zero =>
   have hdrk : dr.kids = [] ∧ dr.nums.length = dr.keys.length ∧ dlt m key = dr.keys.zip dr.nums ∧ fp1 = [r] ∧ y = dr.keys.length := by
    obtain ⟨d', q1, q2, q3, q4, q5, q6⟩ := Q.rep
    rw [hdr] at q1; obtain rfl := Option.some.inj q1
    exact ⟨q2, q3, q4, q5, q6⟩
   obtain ⟨q2, q3, q4, q5, q6⟩ := hdrk
   by_cases hy : y = 0
   ·have hk0 : dr.keys = [] := List.length_eq_zero_iff.1 (by omega)
    have hd0 : dlt m key = [] := by rw [q4, hk0]; rfl
    refine (Del_last hlen I.all key f1 f2 f4 hfk (by omega) (by omega) Q.r hdr (by omega) q2 hk0).imp ?_
    rintro v l4 ⟨hf', hs', e1, e2, e3⟩
    refine ⟨⟨l1.set r nd0, fr1 ++ [r], none, n - 1⟩, _, hf', hs', _, ⟨hrd, ?_, by omega, hfree2, .inl ⟨rfl, hd0, ?_⟩, by simp; omega⟩, e1, e3, hv v e2, rfl⟩
    ·simp only; omega
    ·simp only [List.length_set]
     rw [q5] at hp1
     exact List.perm_append_comm.trans hp1
   ·refine (Del_stay hlen I.all key f1 f2 f4 hfk (by omega) (by omega) Q.r hdr (by omega) (by rw [q2]; simp) (fun _ h0 => hy (by rw [q6, h0]; rfl))).imp ?_
    rintro v l4 ⟨hf', hs', e1, e2, e3⟩
    refine ⟨⟨l1, fr1, some r, n - 1⟩, _, hf', hs', _, ⟨hrd, by simp only; omega, by omega, hfree, .inr ⟨r, 0, fp1, y, rfl, Q.rep, by omega, by omega, .inl rfl, hp1⟩, by simp only; omega⟩, e1, e3, hv v e2, rfl⟩
  | succ h =>
   have hrep := Q.rep
   have hdrk := Q.rep
   obtain ⟨d', cs, q1, q2, q3, q4, q5, q6, q7, q8⟩ := hdrk
   rw [hdr] at q1; obtain rfl := Option.some.inj q1
   have hkl : dr.kids.length = y := by rw [q2, q6]; simp
   by_cases hy : y = 1
   ·have hc1 : ∃ c, cs = [c] := List.length_eq_one_iff.1 (by omega)
    obtain ⟨c, hc⟩ := hc1
    subst hc
    refine (Del_down hlen I.all key f1 f2 f4 hfk (by omega) (by omega) Q.r hdr (by omega) q2).imp ?_
    rintro v l4 ⟨hf', hs', e1, e2, e3⟩
    obtain ⟨y', y1, y2, y3⟩ := q8 c (by simp)
    have hfc : fp1 = r :: c.fp := by rw [q5]; simp [allF]
    have hrc : r ∉ c.fp := by
     have := hP1.1
     rw [hfc, List.nodup_append] at this
     exact (List.nodup_cons.1 this.1).1
    have hmc : dlt m key = c.m := by rw [q4]; simp [allM]
    refine ⟨⟨l1.set r nd0, fr1 ++ [r], some c.i, n - 1⟩, _, hf', hs', _, ⟨hrd, by simp only; omega, by omega, hfree2, .inr ⟨c.i, h, c.fp, y', rfl, ?_, by omega, by omega, .inr y1, ?_⟩, by simp; omega⟩, e1, e3, hv v e2, rfl⟩
    ·rw [hmc]
     exact y3.frame fun j hj => List.getElem?_set_ne (fun (e : r = j) => hrc (by rw [e]; exact hj))
    ·simp only [List.length_set]
     rw [hfc] at hp1
     refine List.Perm.trans ?_ hp1
     rw [← List.append_assoc]
     exact List.perm_append_comm (l₂ := [r])
   ·have hy2 : 2 ≤ y := by omega
    refine (Del_stay hlen I.all key f1 f2 f4 hfk (by omega) (by omega) Q.r hdr (by omega) (by omega) (fun h0 => by rw [h0] at hkl; simp at hkl; omega)).imp ?_
    rintro v l4 ⟨hf', hs', e1, e2, e3⟩
    refine ⟨⟨l1, fr1, some r, n - 1⟩, _, hf', hs', _, ⟨hrd, by simp only; omega, by omega, hfree, .inr ⟨r, h + 1, fp1, y, rfl, Q.rep, by omega, by omega, .inr hy2, hp1⟩, by simp only; omega⟩, e1, e3, hv v e2, rfl⟩
end Go.Proofs.YtcpbibdbahfgaaaGreat
namespace Go.Eng
section
variable {β : Type} {M : List (ByteArray × β)} {k : ByteArray}
theorem map_ks {γ : Type} (f : ByteArray × β → γ) : ks (M.map fun p => (p.1, f p)) = ks M := by simp [ks]
theorem fnd_split (h : fnd (ks M) k = true) : ∃ v A B, look M k = some v ∧ M = A ++ (k, v) :: B ∧ A.length = lb (ks M) k ∧ (∀ w, put1 M k w = A ++ (k, w) :: B) ∧ dlt M k = A ++ B := by
  have hl := fnd_lt0 h
  rw [ks_length] at hl
  have hk : (M[lb (ks M) k]).1 = k := by
    simp only [fnd] at h
    rw [List.getElem?_eq_getElem (by rw [ks_length]; exact hl)] at h
    have := sEq_iff.1 h
    simpa [ks] using this
  have hs : M = M.take (lb (ks M) k) ++ (k, (M[lb (ks M) k]).2) :: M.drop (lb (ks M) k + 1) := by
    conv => lhs; rw [← List.take_append_drop (lb (ks M) k) M, List.drop_eq_getElem_cons hl]
    congr 2
    exact Prod.ext hk rfl
  refine ⟨(M[lb (ks M) k]).2, M.take (lb (ks M) k), M.drop (lb (ks M) k + 1), ?_, hs, by simp; omega, fun w => ?_, rfl⟩
  · simp [look, h, List.getElem?_eq_getElem hl]
  · unfold put1
    rw [List.set_eq_take_append_cons_drop, if_pos hl]
theorem look_some {v : β} (h : look M k = some v) : fnd (ks M) k = true := by
  unfold look at h
  cases hf : fnd (ks M) k with
  | true => rfl
  | false => rw [hf] at h; cases h
theorem look_map {γ : Type} (f : β → γ) : look (M.map fun p => (p.1, f p.2)) k = (look M k).map f := by
  unfold look
  rw [map_ks (M := M) (fun p => f p.2)]
  cases fnd (ks M) k with
  | false => rfl
  | true =>
    simp only [if_true, List.getElem?_map]
    cases M[lb (ks M) k]? <;> rfl
end
end Go.Eng
namespace Go.Proofs.YtcpbibdbahfgaaaGreat
open Go.Eng
abbrev Mp := List (ByteArray × List Ver)
def sumM (f : ByteArray × List Ver → Int) : Mp → Int
  | [] => 0
  | x :: l => f x + sumM f l
theorem sumM_append (f : ByteArray × List Ver → Int) : ∀ (A B : Mp), sumM f (A ++ B) = sumM f A + sumM f B
  | [], B => by simp [sumM]
  | x :: A, B => by simp only [List.cons_append, sumM, sumM_append f A B]; omega
theorem sumM_bound {f : ByteArray × List Ver → Int} {c : Int} : ∀ {M : Mp}, (∀ p ∈ M, 0 ≤ f p ∧ f p ≤ c) → 0 ≤ sumM f M ∧ sumM f M ≤ c * M.length
  | [], _ => by simp [sumM]
  | x :: l, h => by
    have h1 := h x (by simp)
    have h2 := sumM_bound (M := l) (fun p hp => h p (by simp [hp]))
    simp only [sumM, List.length_cons, Int.natCast_add, Int.mul_add]
    omega
def liveM (M : Mp) : Int := sumM (fun p => lives p.1 p.2) M
def countM (M : Mp) : Int := sumM (fun p => min (lives p.1 p.2) 1) M
def versM (M : Mp) : Int := sumM (fun p => (p.2.length : Int)) M
theorem sum_ins (f : ByteArray × List Ver → Int) (M : Mp) (k : ByteArray) (l : List Ver) : sumM f (ins M k l) = sumM f M + f (k, l) := by
  unfold ins
  conv => rhs; rw [← List.take_append_drop (lb (ks M) k) M]
  rw [sumM_append, sumM_append]
  simp only [sumM]; omega
theorem sum_put1 (f : ByteArray × List Ver → Int) {M : Mp} {k : ByteArray} {old : List Ver} (h : Eng.look M k = some old) (l : List Ver) : sumM f (put1 M k l) = sumM f M - f (k, old) + f (k, l) := by
  obtain ⟨v, A, B, e1, e2, e3, e4, e5⟩ := fnd_split (look_some h)
  rw [h] at e1; obtain rfl := Option.some.inj e1
  rw [e4 l, e2, sumM_append, sumM_append]
  simp only [sumM]; omega
theorem sum_dlt (f : ByteArray × List Ver → Int) {M : Mp} {k : ByteArray} {old : List Ver} (h : Eng.look M k = some old) : sumM f (dlt M k) = sumM f M - f (k, old) := by
  obtain ⟨v, A, B, e1, e2, e3, e4, e5⟩ := fnd_split (look_some h)
  rw [h] at e1; obtain rfl := Option.some.inj e1
  rw [e5, e2, sumM_append, sumM_append]
  simp only [sumM]; omega
theorem lives_le {key : ByteArray} (l : List Ver) (h : key.size ≤ 32) : 0 ≤ lives key l ∧ lives key l ≤ 97 := by
  have := cWeight_le l
  unfold lives
  split <;> omega
theorem labelRight_len {l : List Int} (h : labelRight l = true) : l.length ≤ 6 := by
  simp only [labelRight, Bool.and_eq_true, decide_eq_true_eq] at h
  have := h.1; omega
structure RmX where
  label : List Int
  ring : Int
  quota : Int
  most : Int
  R : RR
  M : Mp
structure PairOk (R : RR) (p : ByteArray × List Ver) : Prop where
  k1 : 1 ≤ p.1.size
  k2 : p.1.size ≤ 32
  c : chainRight p.2 = true
  ne : p.2 ≠ []
  len : (p.2.length : Int) ≤ 1 + (R.seq - R.begin)
  sq : ∀ v ∈ p.2, v.seq ≤ R.seq
structure RmX.ok (X : RmX) : Prop where
  lab : labelRight X.label = true
  r1 : 1 ≤ X.ring ∧ X.ring ≤ 16
  q : 0 ≤ X.quota ∧ X.quota ≤ 1048576
  mo : 1 ≤ X.most ∧ X.most ≤ 1073741824
  rg : X.R.ok
  rs : X.R.size = X.ring
  sm : X.R.seq ≤ X.most
  bg : X.R.seq - X.R.begin ≤ 900000
  ps : ∀ p ∈ X.M, PairOk X.R p
  rise : Rise (ks X.M)
  le : X.M.length ≤ 100000
theorem RmX.ok.live {X : RmX} (ok : X.ok) : 0 ≤ liveM X.M ∧ liveM X.M ≤ 97 * X.M.length := sumM_bound fun p hp => lives_le p.2 (ok.ps p hp).k2
theorem RmX.ok.count {X : RmX} (ok : X.ok) : 0 ≤ countM X.M ∧ countM X.M ≤ 1 * X.M.length := sumM_bound fun p hp => by have := lives_le p.2 (ok.ps p hp).k2; omega
theorem RmX.ok.vers {X : RmX} (ok : X.ok) : 0 ≤ versM X.M ∧ versM X.M ≤ 900001 * X.M.length := sumM_bound fun p hp => by have := (ok.ps p hp).len; have := ok.bg; omega
structure RmI where
  bR : Nat
  bK : Nat
  hL : SH
  hc : SH
  hf : SH
  t : Con
  hdrs : List SH
  cs : List (List Ver)
  free : List Nat
def AllRo (hs : List SH) (cs : List (List Ver)) : HP :=
  ⟨fun r x => ∀ (i : Nat) h c, hs[i]? = some h → cs[i]? = some c → (RoSl eVer h c).P r x, fun hr hx hp i h c e e' => (RoSl eVer h c).mono hr hx (hp i h c e e')⟩
theorem AllRo.get {hs : List SH} {cs : List (List Ver)} {i : Nat} {h : SH} {c : List Ver} (e : hs[i]? = some h) (e' : cs[i]? = some c) : Ent (AllRo hs cs) (RoSl eVer h c) := fun r x hp => hp i h c e e'
theorem AllRo.nil : Ent emp (AllRo [] []) := fun r x _ i h c e _ => by simp at e
theorem AllRo.set {hs : List SH} {cs : List (List Ver)} {i : Nat} {h : SH} {c : List Ver} : Ent (sep (RoSl eVer h c) (AllRo hs cs)) (AllRo (hs.set i h) (cs.set i c)) := by
  rintro r x ⟨x1, x2, hj, hp, hq⟩ j h' c' e e'
  by_cases hji : i = j
  · subst hji
    have h1 : i < hs.length := by have := getLt e; simpa using this
    have h2 : i < cs.length := by have := getLt e'; simpa using this
    rw [List.getElem?_set_self h1] at e
    rw [List.getElem?_set_self h2] at e'
    obtain rfl := Option.some.inj e
    obtain rfl := Option.some.inj e'
    exact (RoSl eVer h c).mono Sub.rfl hj.sub1 hp
  · rw [List.getElem?_set_ne hji] at e e'
    exact (RoSl eVer h' c').mono Sub.rfl hj.sub2 (hq j h' c' e e')
theorem AllRo.push {hs : List SH} {cs : List (List Ver)} {h : SH} {c : List Ver} (hl : hs.length = cs.length) : Ent (sep (RoSl eVer h c) (AllRo hs cs)) (AllRo (hs ++ [h]) (cs ++ [c])) := by
  rintro r x ⟨x1, x2, hj, hp, hq⟩ j h' c' e e'
  by_cases hji : j < hs.length
  · rw [List.getElem?_append_left hji] at e
    rw [List.getElem?_append_left (by omega)] at e'
    exact (RoSl eVer h' c').mono Sub.rfl hj.sub2 (hq j h' c' e e')
  · rw [List.getElem?_append_right (by omega)] at e e'
    have hj0 : j - hs.length = 0 := by have := getLt e; simp at this; omega
    rw [hj0] at e
    rw [← hl, hj0] at e'
    simp at e e'
    subst e e'
    exact (RoSl eVer h c).mono Sub.rfl hj.sub1 hp
abbrev eVS : Enc SH := eSl 138
structure RmRel (X : RmX) (I : RmI) : Prop where
  m : X.M = I.t.map fun p => (p.1, I.cs.getD p.2.toNat [])
  pos : ∀ p ∈ I.t, 0 ≤ p.2
  perm : (I.t.map (fun p => p.2.toNat) ++ I.free).Perm (List.range I.cs.length)
  hl : I.hdrs.length = I.cs.length
  le : I.cs.length ≤ 100000
def RmO (b : Nat) (X : RmX) (I : RmI) : List HP :=
  [Pts b [I.hL.v, .int .i64 X.ring, .int .i64 X.quota, .int .i64 X.most, .pointer (some ⟨I.bR, 0, none⟩), .pointer (some ⟨I.bK, 0, none⟩), I.hc.v, I.hf.v, .int .i64 (liveM X.M), .int .i64 (countM X.M), .int .i64 (versM X.M)] 132,
   Sl eU64 I.hL X.label, RingC I.bR X.R, TreeC I.bK I.t, Sl eVS I.hc I.hdrs, Sl eNat I.hf I.free, AllRo I.hdrs I.cs]
def RoomC (b : Nat) (X : RmX) : HP := ex fun I => sep (lift (RmRel X I)) (seps (RmO b X I))
theorem ent_RmO {b : Nat} {X : RmX} {I : RmI} (rel : RmRel X I) {r : List HP} : Ent (seps (RmO b X I ++ r)) (seps (RoomC b X :: r)) :=
  Ent.append.trans ((ent_lift (p := RmRel X I) rel).trans (ent_ex (f := fun I => sep (lift (RmRel X I)) (seps (RmO b X I))) I))
theorem ent_RmO0 {b : Nat} {X : RmX} {I : RmI} (rel : RmRel X I) : Ent (seps (RmO b X I)) (seps [RoomC b X]) := by
  have := ent_RmO (b := b) rel (r := [])
  rwa [List.append_nil] at this
theorem room_does {f : FuncId} {args : List Value} {b : Nat} {X : RmX} {r : List HP} {Q : Value → List HP → Prop} (h : ∀ I, RmRel X I → Does Tryz.prog f args (RmO b X I ++ r) Q) : Does Tryz.prog f args (RoomC b X :: r) Q :=
  Does.ex1 fun I => Does.lift1 fun rel => Does.pre Ent.append' (h I rel)
def chainM (M : Mp) (key : ByteArray) : List Ver := (Eng.look M key).getD []
def chainH (I : RmI) (key : ByteArray) : SH := match Eng.look I.t key with
  | some i => I.hdrs.getD i.toNat nilS
  | none => nilS
section
variable {X : RmX} {I : RmI} {key : ByteArray}
theorem RmRel.ks (rel : RmRel X I) : Eng.ks X.M = Eng.ks I.t := by rw [rel.m]; exact map_ks (fun p : ByteArray × Int => I.cs.getD p.2.toNat [])
theorem RmRel.look (rel : RmRel X I) (key : ByteArray) : Eng.look X.M key = (Eng.look I.t key).map (fun i => I.cs.getD i.toNat []) := by
  rw [rel.m]; exact look_map (fun i : Int => I.cs.getD i.toNat [])
theorem RmRel.idx (rel : RmRel X I) {i : Int} (h : Eng.look I.t key = some i) : 0 ≤ i ∧ i.toNat < I.cs.length := by
  obtain ⟨v, A, B, e1, e2, e3, e4, e5⟩ := fnd_split (look_some h)
  rw [h] at e1; obtain rfl := Option.some.inj e1
  have hm : (key, i) ∈ I.t := by rw [e2]; simp
  refine ⟨rel.pos _ hm, ?_⟩
  have : i.toNat ∈ I.t.map (fun p => p.2.toNat) ++ I.free := List.mem_append_left _ (List.mem_map.2 ⟨_, hm, rfl⟩)
  exact List.mem_range.1 (rel.perm.mem_iff.1 this)
theorem RmRel.freeLe (rel : RmRel X I) : I.free.length ≤ 100000 := by
  have h1 := (nodup_range_perm rel.perm).2.2
  have h2 := rel.le
  rw [List.length_append] at h1; omega
theorem Rd.nil {α : Type} {E : Enc α} {w : World} : Rd E nilS ([] : List α) w := ⟨rfl, by simp, .inr ⟨rfl, rfl⟩, fun m c hc => by simp [flat] at hc⟩
theorem RmRel.vis (rel : RmRel X I) (key : ByteArray) : Vis (AllRo I.hdrs I.cs) (Rd eVer (chainH I key) (chainM X.M key)) := by
  unfold chainH chainM
  rw [rel.look key]
  cases h : Eng.look I.t key with
  | none => exact fun _ _ _ => Rd.nil
  | some i =>
    obtain ⟨h1, h2⟩ := rel.idx h
    have e1 : I.hdrs[i.toNat]? = some (I.hdrs.getD i.toNat nilS) := by
      rw [List.getD_eq_getElem?_getD, List.getElem?_eq_getElem (by rw [rel.hl]; exact h2)]; rfl
    have e2 : I.cs[i.toNat]? = some (I.cs.getD i.toNat []) := by
      rw [List.getD_eq_getElem?_getD, List.getElem?_eq_getElem h2]; rfl
    exact RoSl.vis.ent (AllRo.get e1 e2)
theorem RmX.ok.chain (ok : X.ok) (key : ByteArray) : chainRight (chainM X.M key) = true ∧ ((chainM X.M key).length : Int) ≤ 900001 ∧ ∀ v ∈ chainM X.M key, v.seq ≤ X.R.seq := by
  unfold chainM
  cases h : Eng.look X.M key with
  | none => exact ⟨rfl, by simp, by simp⟩
  | some l =>
    obtain ⟨v, A, B, e1, e2, e3, e4, e5⟩ := fnd_split (look_some h)
    rw [h] at e1; obtain rfl := Option.some.inj e1
    have := ok.ps (key, l) (by rw [e2]; simp)
    exact ⟨this.c, by have := this.len; have := ok.bg; simp only [Option.getD_some] at *; omega, this.sq⟩
end
section
variable {X : RmX} {I : RmI} {key : ByteArray}
theorem RmRel.parts (rel : RmRel X I) {i : Int} (h : Eng.look I.t key = some i) : ∃ A B, I.t = A ++ (key, i) :: B ∧ (∀ p : ByteArray × Int, p ∈ A ∨ p ∈ B → p.2.toNat ≠ i.toNat) ∧ (∀ w, put1 X.M key w = A.map (fun p => (p.1, I.cs.getD p.2.toNat [])) ++ (key, w) :: B.map (fun p => (p.1, I.cs.getD p.2.toNat []))) ∧
    dlt X.M key = A.map (fun p => (p.1, I.cs.getD p.2.toNat [])) ++ B.map (fun p => (p.1, I.cs.getD p.2.toNat [])) ∧ dlt I.t key = A ++ B := by
  obtain ⟨v, A, B, e1, e2, e3, e4, e5⟩ := fnd_split (look_some h)
  rw [h] at e1; obtain rfl := Option.some.inj e1
  have hn := (nodup_range_perm rel.perm).1
  rw [List.nodup_append] at hn
  have hn := hn.1
  rw [e2, List.map_append, List.map_cons, List.nodup_append] at hn
  obtain ⟨n1, n2, n3⟩ := hn
  rw [List.nodup_cons] at n2
  have hlb : lb (Eng.ks X.M) key = A.length := by rw [rel.ks, ← e3]
  refine ⟨A, B, e2, ?_, fun w => ?_, ?_, e5⟩
  · rintro p (hp | hp) e
    · exact n3 p.2.toNat (List.mem_map.2 ⟨p, hp, rfl⟩) i.toNat (by simp) e
    · exact n2.1 (by rw [← e]; exact List.mem_map.2 ⟨p, hp, rfl⟩)
  · unfold put1
    rw [hlb, rel.m, e2, List.map_append, List.map_cons, List.set_append_right _ _ (by simp)]
    simp
  · unfold dlt
    rw [hlb, rel.m, e2, List.map_append, List.map_cons]
    rw [List.take_left' (by simp), List.drop_append]
    simp
theorem getD_set {α : Type} {l : List α} {i j : Nat} {a d : α} (h : j ≠ i) : (l.set i a).getD j d = l.getD j d := by
  rw [List.getD_eq_getElem?_getD, List.getD_eq_getElem?_getD, List.getElem?_set_ne (Ne.symm h)]
theorem getD_self {α : Type} {l : List α} {i : Nat} {a d : α} (h : i < l.length) : (l.set i a).getD i d = a := by
  rw [List.getD_eq_getElem?_getD, List.getElem?_set_self h]; rfl
theorem RmRel.put1 (rel : RmRel X I) {i : Int} (h : Eng.look I.t key = some i) (hh : SH) (xs : List Ver) :
    RmRel ⟨X.label, X.ring, X.quota, X.most, X.R, Eng.put1 X.M key xs⟩ ⟨I.bR, I.bK, I.hL, I.hc, I.hf, I.t, I.hdrs.set i.toNat hh, I.cs.set i.toNat xs, I.free⟩ := by
  obtain ⟨A, B, e1, e2, e3, e4, e5⟩ := rel.parts h
  obtain ⟨h1, h2⟩ := rel.idx h
  refine ⟨?_, rel.pos, by simpa using rel.perm, by simpa using rel.hl, by simpa using rel.le⟩
  simp only []
  rw [e3 xs, e1, List.map_append, List.map_cons]
  congr 1
  · exact List.map_congr_left fun p hp => by rw [getD_set (e2 p (.inl hp))]
  · congr 1
    · rw [getD_self h2]
    · exact List.map_congr_left fun p hp => by rw [getD_set (e2 p (.inr hp))]
theorem RmRel.dlt (rel : RmRel X I) {i : Int} (h : Eng.look I.t key = some i) (hf' : SH) :
    RmRel ⟨X.label, X.ring, X.quota, X.most, X.R, Eng.dlt X.M key⟩ ⟨I.bR, I.bK, I.hL, I.hc, hf', Eng.dlt I.t key, I.hdrs.set i.toNat nilS, I.cs.set i.toNat [], I.free ++ [i.toNat]⟩ := by
  obtain ⟨A, B, e1, e2, e3, e4, e5⟩ := rel.parts h
  refine ⟨?_, fun p hp => rel.pos p ?_, ?_, by simpa using rel.hl, by simpa using rel.le⟩
  · simp only []
    rw [e4, e5, List.map_append]
    congr 1
    · exact List.map_congr_left fun p hp => by rw [getD_set (e2 p (.inl hp))]
    · exact List.map_congr_left fun p hp => by rw [getD_set (e2 p (.inr hp))]
  · rw [e5] at hp
    rw [e1]
    rcases List.mem_append.1 hp with hp | hp <;> simp [hp]
  · simp only [List.length_set]
    have hp := rel.perm
    rw [e1, List.map_append, List.map_cons] at hp
    rw [e5, List.map_append]
    refine List.Perm.trans ?_ hp
    simp only [List.append_assoc, List.cons_append]
    refine List.Perm.append_left _ ?_
    rw [← List.append_assoc]
    exact List.perm_append_comm (l₂ := [i.toNat])
theorem ins_map {β γ : Type} (f : β → γ) (M : List (ByteArray × β)) (k : ByteArray) (v : β) : ins (M.map fun p => (p.1, f p.2)) k (f v) = (ins M k v).map fun p => (p.1, f p.2) := by
  unfold ins
  rw [map_ks (M := M) (fun p => f p.2)]
  simp [List.map_take, List.map_drop]
theorem RmRel.insF (rel : RmRel X I) {fr : List Nat} {i : Nat} (hf : I.free = fr ++ [i]) (hh : SH) (hf' : SH) (xs : List Ver) :
    RmRel ⟨X.label, X.ring, X.quota, X.most, X.R, ins X.M key xs⟩ ⟨I.bR, I.bK, I.hL, I.hc, hf', ins I.t key (i : Int), I.hdrs.set i hh, I.cs.set i xs, fr⟩ := by
  have hP := nodup_range_perm rel.perm
  rw [hf] at hP
  have hi : i < I.cs.length := hP.2.1 i (by simp)
  have hne : ∀ p ∈ I.t, p.2.toNat ≠ i := fun p hp e => by
    have := hP.1
    rw [List.nodup_append] at this
    exact this.2.2 p.2.toNat (List.mem_map.2 ⟨p, hp, rfl⟩) i (by simp) e
  have hm : X.M = I.t.map fun p => (p.1, (I.cs.set i xs).getD p.2.toNat []) := by
    rw [rel.m]
    exact List.map_congr_left fun p hp => by rw [getD_set (hne p hp)]
  refine ⟨?_, fun p hp => ?_, ?_, by simpa using rel.hl, by simpa using rel.le⟩
  · simp only []
    have := ins_map (fun j : Int => (I.cs.set i xs).getD j.toNat []) I.t key (i : Int)
    rw [← this, ← hm]
    congr 1
    exact (getD_self hi).symm
  · unfold ins at hp
    simp only [List.mem_append, List.mem_cons] at hp
    rcases hp with hp | rfl | hp
    · exact rel.pos p (List.mem_of_mem_take hp)
    · simp
    · exact rel.pos p (List.mem_of_mem_drop hp)
  · simp only [List.length_set]
    refine List.Perm.trans ?_ rel.perm
    rw [hf]
    unfold ins
    conv => rhs; rw [← List.take_append_drop (lb (Eng.ks I.t) key) I.t]
    simp only [List.map_append, List.map_cons, List.append_assoc, List.cons_append]
    refine List.Perm.append_left _ ?_
    show (i :: _).Perm _
    rw [← List.append_assoc]
    exact (List.perm_append_comm (l₁ := [i])).trans (by simp)
theorem RmRel.insN (rel : RmRel X I) (hf : I.free = []) (hh : SH) (hc' : SH) (xs : List Ver) (hlt : X.M.length < 100000) :
    RmRel ⟨X.label, X.ring, X.quota, X.most, X.R, ins X.M key xs⟩ ⟨I.bR, I.bK, I.hL, hc', I.hf, ins I.t key (I.cs.length : Int), I.hdrs ++ [hh], I.cs ++ [xs], I.free⟩ := by
  have hP := nodup_range_perm rel.perm
  have hlt' : I.cs.length = X.M.length := by
    have := hP.2.2
    rw [hf] at this
    rw [rel.m]; simp at this ⊢; omega
  have hm : X.M = I.t.map fun p => (p.1, (I.cs ++ [xs]).getD p.2.toNat []) := by
    rw [rel.m]
    refine List.map_congr_left fun p hp => ?_
    have : p.2.toNat < I.cs.length := hP.2.1 _ (List.mem_append_left _ (List.mem_map.2 ⟨p, hp, rfl⟩))
    rw [List.getD_eq_getElem?_getD, List.getD_eq_getElem?_getD, List.getElem?_append_left this]
  refine ⟨?_, fun p hp => ?_, ?_, by simp [rel.hl], by simp; omega⟩
  · simp only []
    have := ins_map (fun j : Int => (I.cs ++ [xs]).getD j.toNat []) I.t key (I.cs.length : Int)
    rw [← this, ← hm]
    congr 1
    simp
  · unfold ins at hp
    simp only [List.mem_append, List.mem_cons] at hp
    rcases hp with hp | rfl | hp
    · exact rel.pos p (List.mem_of_mem_take hp)
    · simp
    · exact rel.pos p (List.mem_of_mem_drop hp)
  · simp only [List.length_append, List.length_singleton]
    rw [List.range_succ]
    have hp := rel.perm
    rw [hf, List.append_nil] at hp ⊢
    refine List.Perm.trans ?_ (hp.append_right _)
    unfold ins
    conv => rhs; rw [← List.take_append_drop (lb (Eng.ks I.t) key) I.t]
    simp only [List.map_append, List.map_cons, List.append_assoc]
    refine List.Perm.append_left _ ?_
    show (I.cs.length :: _).Perm _
    exact List.perm_append_comm (l₁ := [I.cs.length])
end
end Go.Proofs.YtcpbibdbahfgaaaGreat
namespace Go.Proofs.YtcpbibdbahfgaaaGreat
open Go.Eng
namespace FRoom1
theorem fl_24_0 : Fld Tryz.prog 24 0 0 := ⟨_, _, 0, Tryz.underlying24, rfl, rfl, by kernel_rfl⟩
theorem one_22 : TyOne Tryz.prog 22 := ⟨⟨_, Tryz.underlying22, rfl⟩, by kernel_rfl⟩
theorem ca_93 : Callable Tryz.prog 93 := ⟨_, _, Tryz.func93, rfl, rfl⟩
theorem fl_24_1 : Fld Tryz.prog 24 1 1 := ⟨_, _, 0, Tryz.underlying24, rfl, rfl, by kernel_rfl⟩
theorem one_3 : TyOne Tryz.prog 3 := ⟨⟨_, Tryz.underlying3, rfl⟩, by kernel_rfl⟩
theorem ca_84 : Callable Tryz.prog 84 := ⟨_, _, Tryz.func84, rfl, rfl⟩
theorem fl_24_2 : Fld Tryz.prog 24 2 2 := ⟨_, _, 0, Tryz.underlying24, rfl, rfl, by kernel_rfl⟩
theorem fl_24_3 : Fld Tryz.prog 24 3 3 := ⟨_, _, 0, Tryz.underlying24, rfl, rfl, by kernel_rfl⟩
theorem ag_24 : TyAgg Tryz.prog 24 4 := ⟨⟨_, Tryz.underlying24, rfl⟩, by kernel_rfl⟩
theorem ca_30 : Callable Tryz.prog 30 := ⟨_, _, Tryz.func30, rfl, rfl⟩
theorem ca_114 : Callable Tryz.prog 114 := ⟨_, _, Tryz.func114, rfl, rfl⟩
theorem ca_101 : Callable Tryz.prog 101 := ⟨_, _, Tryz.func101, rfl, rfl⟩
theorem sz_22 : (Tryz.prog.info? 22).map (·.size) = some 1 := by kernel_rfl
theorem ca_115 : Callable Tryz.prog 115 := ⟨_, _, Tryz.func115, rfl, rfl⟩
theorem ze_132 : (Tryz.prog.info? 132).map (·.zero) = some (some (.agg #[.slice none 0 0, .int .i64 0, .int .i64 0, .int .i64 0, .pointer none, .pointer none, .slice none 0 0, .slice none 0 0, .int .i64 0, .int .i64 0, .int .i64 0])) := by kernel_rfl
theorem bu_132_0_1_2 (v0_0 v0_1 v0_2 v0_3 : Value) (v1 : Value) (v2 : Value) (h1 : v1.cells = #[v1]) (h2 : v2.cells = #[v2]) (w : World) : (Instr.build 132 #[(0, .agg #[v0_0, v0_1, v0_2, v0_3]), (1, v1), (2, v2)]).run Tryz.prog w = .ok (.agg #[v0_0, v0_1, v0_2, v0_3, v1, v2, .slice none 0 0, .slice none 0 0, .int .i64 0, .int .i64 0, .int .i64 0]) w := by
 have hz := @ze_132
 exact Go.Eng.run_build (pl := [(0, 4), (4, 1), (5, 1), (6, 1), (7, 1), (8, 1), (9, 1), (10, 1)]) hz Tryz.underlying132 (by kernel_rfl) rfl (by simp [Instr.fill, h1, h2, cells_agg]) w
theorem ca_67 : Callable Tryz.prog 67 := ⟨_, _, Tryz.func67, rfl, rfl⟩
theorem ep_28 : Tryz.prog.underlying 28 = some (.pointer (Tryz.prog.pointee 28)) := by kernel_rfl
theorem fl_132_2 : Fld Tryz.prog 132 2 5 := ⟨_, _, 0, Tryz.underlying132, rfl, rfl, by kernel_rfl⟩
theorem one_129 : TyOne Tryz.prog 129 := ⟨⟨_, Tryz.underlying129, rfl⟩, by kernel_rfl⟩
theorem ca_126 : Callable Tryz.prog 126 := ⟨_, _, Tryz.func126, rfl, rfl⟩
theorem fl_132_3 : Fld Tryz.prog 132 3 6 := ⟨_, _, 0, Tryz.underlying132, rfl, rfl, by kernel_rfl⟩
theorem one_130 : TyOne Tryz.prog 130 := ⟨⟨_, Tryz.underlying130, rfl⟩, by kernel_rfl⟩
theorem sl_130 : TySl Tryz.prog 130 138 1 := ⟨Tryz.underlying130, by kernel_rfl⟩
theorem one_138 : TyOne Tryz.prog 138 := ⟨⟨_, Tryz.underlying138, rfl⟩, by kernel_rfl⟩
theorem ca_76 : Callable Tryz.prog 76 := ⟨_, _, Tryz.func76, rfl, rfl⟩
theorem fl_132_7 : Fld Tryz.prog 132 7 10 := ⟨_, _, 0, Tryz.underlying132, rfl, rfl, by kernel_rfl⟩
theorem sz_3 : (Tryz.prog.info? 3).map (·.size) = some 1 := by kernel_rfl
theorem ca_120 : Callable Tryz.prog 120 := ⟨_, _, Tryz.func120, rfl, rfl⟩
theorem fl_132_5 : Fld Tryz.prog 132 5 8 := ⟨_, _, 0, Tryz.underlying132, rfl, rfl, by kernel_rfl⟩
theorem fl_132_6 : Fld Tryz.prog 132 6 9 := ⟨_, _, 0, Tryz.underlying132, rfl, rfl, by kernel_rfl⟩
theorem sz_138 : (Tryz.prog.info? 138).map (·.size) = some 1 := by kernel_rfl
theorem ca_129 : Callable Tryz.prog 129 := ⟨_, _, Tryz.func129, rfl, rfl⟩
theorem fl_132_4 : Fld Tryz.prog 132 4 7 := ⟨_, _, 0, Tryz.underlying132, rfl, rfl, by kernel_rfl⟩
theorem one_72 : TyOne Tryz.prog 72 := ⟨⟨_, Tryz.underlying72, rfl⟩, by kernel_rfl⟩
theorem ze_3 : (Tryz.prog.info? 3).map (·.zero) = some (some (.int .i64 0)) := by kernel_rfl
theorem bs_72_1 (v0 : Value) (h0 : v0.cells = #[v0]) (w : World) : (Instr.buildSlice 72 1 #[(0, v0)]).run Tryz.prog w = .ok (.slice (some ⟨w.heap.size, 0, none⟩) 1 1) { w with heap := w.heap.push (.cells #[v0] 3 (0, 0)) } :=
 Go.Eng.run_buildSlice Tryz.underlying72 sz_3 ze_3 (by decide) (by rw [show Array.range (1 * 1) = #[0] from by decide]; simp [Instr.fill, cells_agg, h0]) w
theorem el_72_eNat : TyEl Tryz.prog 72 eNat 8 := ⟨Tryz.underlying72, .int .i64 0, by kernel_rfl, rfl⟩
theorem sz_72 : (Tryz.prog.info? 72).map (·.size) = some 1 := by kernel_rfl
theorem sl_72 : TySl Tryz.prog 72 3 1 := ⟨Tryz.underlying72, by kernel_rfl⟩
theorem ca_130 : Callable Tryz.prog 130 := ⟨_, _, Tryz.func130, rfl, rfl⟩
theorem ze_138 : (Tryz.prog.info? 138).map (·.zero) = some (some (.slice none 0 0)) := by kernel_rfl
theorem bs_130_1 (v0 : Value) (h0 : v0.cells = #[v0]) (w : World) : (Instr.buildSlice 130 1 #[(0, v0)]).run Tryz.prog w = .ok (.slice (some ⟨w.heap.size, 0, none⟩) 1 1) { w with heap := w.heap.push (.cells #[v0] 138 (0, 0)) } :=
 Go.Eng.run_buildSlice Tryz.underlying130 sz_138 ze_138 (by decide) (by rw [show Array.range (1 * 1) = #[0] from by decide]; simp [Instr.fill, cells_agg, h0]) w
theorem el_130_eVS : TyEl Tryz.prog 130 eVS 24 := ⟨Tryz.underlying130, .slice none 0 0, by kernel_rfl, rfl⟩
theorem sz_130 : (Tryz.prog.info? 130).map (·.size) = some 1 := by kernel_rfl
end FRoom1
open FRoom1
def setRight (label : List Int) (ring quota most : Int) : Bool := labelRight label && (decide (1 ≤ ring) && decide (ring ≤ 16)) && (decide (0 ≤ quota) && decide (quota ≤ 1048576)) && (decide (1 ≤ most) && decide (most ≤ 1073741824))
def X0 (label : List Int) (ring quota most seq : Int) : RmX := ⟨label, ring, quota, most, ⟨ring, seq, seq, []⟩, []⟩
theorem X0_ok {label : List Int} {ring quota most seq : Int} (h : setRight label ring quota most = true) (h1 : 0 ≤ seq) (h2 : seq ≤ most) : (X0 label ring quota most seq).ok := by
 simp only [setRight, Bool.and_eq_true, decide_eq_true_eq] at h
 obtain ⟨⟨⟨a, b1, b2⟩, c1, c2⟩, d1, d2⟩ := h
 exact ⟨a, ⟨b1, b2⟩, ⟨c1, c2⟩, ⟨d1, d2⟩, ⟨b1, b2, h1, Int.le_refl _, by simp only [X0]; omega, by simp only [X0, List.length_nil]; omega, by simp [X0], trivial⟩, rfl, h2, by simp [X0], by simp [X0], trivial, by simp [X0]⟩
def verTup (b : Nat) : Value := .tuple #[.pointer (some ⟨b, 0, none⟩), .int .i64 0]
theorem sum_lives_put {M : Mp} {k : ByteArray} {old : List Ver} (h : Eng.look M k = some old) (l : List Ver) : liveM (put1 M k l) = liveM M - lives k old + lives k l := sum_put1 _ h l
theorem sum_count_put {M : Mp} {k : ByteArray} {old : List Ver} (h : Eng.look M k = some old) (l : List Ver) : countM (put1 M k l) = countM M - min (lives k old) 1 + min (lives k l) 1 := sum_put1 _ h l
theorem sum_vers_put {M : Mp} {k : ByteArray} {old : List Ver} (h : Eng.look M k = some old) (l : List Ver) : versM (put1 M k l) = versM M - (old.length : Int) + (l.length : Int) := sum_put1 _ h l
theorem sum_lives_dlt {M : Mp} {k : ByteArray} {old : List Ver} (h : Eng.look M k = some old) : liveM (dlt M k) = liveM M - lives k old := sum_dlt _ h
theorem sum_count_dlt {M : Mp} {k : ByteArray} {old : List Ver} (h : Eng.look M k = some old) : countM (dlt M k) = countM M - min (lives k old) 1 := sum_dlt _ h
theorem sum_vers_dlt {M : Mp} {k : ByteArray} {old : List Ver} (h : Eng.look M k = some old) : versM (dlt M k) = versM M - (old.length : Int) := sum_dlt _ h
theorem sum_lives_ins (M : Mp) (k : ByteArray) (l : List Ver) : liveM (ins M k l) = liveM M + lives k l := sum_ins _ M k l
theorem sum_count_ins (M : Mp) (k : ByteArray) (l : List Ver) : countM (ins M k l) = countM M + min (lives k l) 1 := sum_ins _ M k l
theorem sum_vers_ins (M : Mp) (k : ByteArray) (l : List Ver) : versM (ins M k l) = versM M + (l.length : Int) := sum_ins _ M k l
theorem lives_nil (k : ByteArray) : lives k [] = 0 := by simp [lives, cWeight, verLast, chainRight, chainFrom]
theorem rright_spec {A : HP} {h : SH} {label : List Int} (hv : Vis A (Rd eU64 h label)) (ring quota most : Int) : Does Tryz.prog 30 [.agg #[h.v, .int .i64 ring, .int .i64 quota, .int .i64 most]] [A] (fun v l => v = .bool (setRight label ring quota most) ∧ l = [A]) := by
 refine spec_of Tryz.func30 rfl Tryz.ntmps30 Tryz.results30 _ (by simp) fun ι F => ?_
 refine vc_seq ?_
 refine vc_region ?_
 refine vc_box [_, _, _, _] rfl rfl rfl (fun b1 => ?_)
 refine vp ?_
 refine vc_nil ?_
 refine vc_then ?_
 refine vc_seq ?_
 refine vc_region ?_
 refine vc_y (y_fieldP fl_24_0 0 rfl rfl) rfl ?_
 refine vc_y (y_load1 0 rfl one_22 rfl (Pts.vis rfl)) rfl ?_
 refine vc_callv ca_93 (us := []) (vs := []) rfl [_] rfl [1] rfl (lright_spec hv) rfl ?_
 rintro _ _ ⟨rfl, rfl⟩
 refine vp ?_
 first | refine vc_splitP 6 rfl (fun c6 => ?_) (fun c6 => ?_) | refine vc_splitN 6 rfl (fun c6 => ?_) (fun c6 => ?_) | refine vc_split 6 rfl (fun c6 => ?_) (fun c6 => ?_)
 ·skip
  refine vc_guardT 6 rfl rfl ?_
  refine vc_y (y_fieldP fl_24_1 1 rfl rfl) rfl ?_
  refine vc_guardT 6 rfl rfl ?_
  refine vc_y (y_load1 1 rfl one_3 rfl (Pts.vis rfl)) rfl ?_
  refine vc_guardT 6 rfl rfl ?_
  refine vc_callv ca_84 (us := []) (vs := []) rfl [_, _, _] rfl [] rfl (within_spec _ _ _) rfl ?_
  rintro _ _ ⟨rfl, rfl⟩
  refine vp ?_
  refine vp ?_
  first | refine vc_splitP 11 rfl (fun c11 => ?_) (fun c11 => ?_) | refine vc_splitN 11 rfl (fun c11 => ?_) (fun c11 => ?_) | refine vc_split 11 rfl (fun c11 => ?_) (fun c11 => ?_)
  ·skip
   refine vc_guardT 11 rfl rfl ?_
   refine vc_y (y_fieldP fl_24_2 2 rfl rfl) rfl ?_
   refine vc_guardT 11 rfl rfl ?_
   refine vc_y (y_load1 1 rfl one_3 rfl (Pts.vis rfl)) rfl ?_
   refine vc_guardT 11 rfl rfl ?_
   refine vc_callv ca_84 (us := []) (vs := []) rfl [_, _, _] rfl [] rfl (within_spec _ _ _) rfl ?_
   rintro _ _ ⟨rfl, rfl⟩
   refine vp ?_
   refine vp ?_
   first | refine vc_splitP 16 rfl (fun c16 => ?_) (fun c16 => ?_) | refine vc_splitN 16 rfl (fun c16 => ?_) (fun c16 => ?_) | refine vc_split 16 rfl (fun c16 => ?_) (fun c16 => ?_)
   ·skip
    refine vc_guardT 16 rfl rfl ?_
    refine vc_y (y_fieldP fl_24_3 3 rfl rfl) rfl ?_
    refine vc_guardT 16 rfl rfl ?_
    refine vc_y (y_load1 1 rfl one_3 rfl (Pts.vis rfl)) rfl ?_
    refine vc_guardT 16 rfl rfl ?_
    refine vc_callv ca_84 (us := []) (vs := []) rfl [_, _, _] rfl [] rfl (within_spec _ _ _) rfl ?_
    rintro _ _ ⟨rfl, rfl⟩
    refine vp ?_
    refine vp ?_
    refine vc_nil ?_
    refine vc_then ?_
    refine vc_ret ?_
    exact vc_end1 Tryz.results30 rfl _ (ent_pick [0] rfl) ⟨by simp [setRight, *], rfl⟩
   ·skip
    refine vc_guardF 16 rfl rfl rfl rfl ?_
    refine vc_guardF 16 rfl rfl rfl rfl ?_
    refine vc_guardF 16 rfl rfl rfl rfl ?_
    refine vp ?_
    refine vp ?_
    refine vc_nil ?_
    refine vc_then ?_
    refine vc_ret ?_
    exact vc_end1 Tryz.results30 rfl _ (ent_pick [0] rfl) ⟨by simp [setRight, *], rfl⟩
  ·skip
   refine vc_guardF 11 rfl rfl rfl rfl ?_
   refine vc_guardF 11 rfl rfl rfl rfl ?_
   refine vc_guardF 11 rfl rfl rfl rfl ?_
   refine vp ?_
   refine vp ?_
   refine vc_guardF 16 rfl rfl rfl rfl ?_
   refine vc_guardF 16 rfl rfl rfl rfl ?_
   refine vc_guardF 16 rfl rfl rfl rfl ?_
   refine vp ?_
   refine vp ?_
   refine vc_nil ?_
   refine vc_then ?_
   refine vc_ret ?_
   exact vc_end1 Tryz.results30 rfl _ (ent_pick [0] rfl) ⟨by simp [setRight, *], rfl⟩
 ·skip
  refine vc_guardF 6 rfl rfl rfl rfl ?_
  refine vc_guardF 6 rfl rfl rfl rfl ?_
  refine vc_guardF 6 rfl rfl rfl rfl ?_
  refine vp ?_
  refine vp ?_
  refine vc_guardF 11 rfl rfl rfl rfl ?_
  refine vc_guardF 11 rfl rfl rfl rfl ?_
  refine vc_guardF 11 rfl rfl rfl rfl ?_
  refine vp ?_
  refine vp ?_
  refine vc_guardF 16 rfl rfl rfl rfl ?_
  refine vc_guardF 16 rfl rfl rfl rfl ?_
  refine vc_guardF 16 rfl rfl rfl rfl ?_
  refine vp ?_
  refine vp ?_
  refine vc_nil ?_
  refine vc_then ?_
  refine vc_ret ?_
  exact vc_end1 Tryz.results30 rfl _ (ent_pick [0] rfl) ⟨by simp [setRight, *], rfl⟩
theorem open_ok {A : HP} {h : SH} {label : List Int} (hv : Vis A (Rd eU64 h label)) (ring quota most : Int) {seq : Int} (hr : setRight label ring quota most = true) (h1 : 0 ≤ seq) (h2 : seq ≤ most) : Does Tryz.prog 67 [.agg #[h.v, .int .i64 ring, .int .i64 quota, .int .i64 most], .int .i64 seq] [A] (fun v l => ∃ b, v = verTup b ∧ l = [RoomC b (X0 label ring quota most seq), A]) := by
 refine spec_of Tryz.func67 rfl Tryz.ntmps67 Tryz.results67 _ (by simp) fun ι F => ?_
 have ok := X0_ok hr h1 h2
 refine vc_seq ?_
 refine vc_region ?_
 refine vc_box [_, _, _, _] rfl rfl rfl (fun b2 => ?_)
 refine vp ?_
 refine vp ?_
 refine vc_nil ?_
 refine vc_then ?_
 refine vc_seq ?_
 refine vc_seq ?_
 refine vc_region ?_
 refine vc_y (y_loadA 0 rfl (cs := [_, _, _, _]) ag_24 rfl (Pts.visA rfl)) rfl ?_
 refine vc_callv ca_30 (us := []) (vs := []) rfl [_] rfl [1] rfl (Does.re (rright_spec hv ring quota most) (show _ = Value.bool true by rw [hr])) rfl ?_
 rintro _ _ ⟨rfl, rfl⟩
 refine vp ?_
 refine vp ?_
 refine vc_guardT 11 rfl rfl ?_
 refine vp ?_
 refine vc_guardT 11 rfl rfl ?_
 refine vc_y (y_fieldP fl_24_3 3 rfl rfl) rfl ?_
 refine vc_guardT 11 rfl rfl ?_
 refine vc_y (y_load1 1 rfl one_3 rfl (Pts.vis rfl)) rfl ?_
 refine vc_guardT 11 rfl rfl ?_
 refine vc_callv ca_84 (us := []) (vs := []) rfl [_, _, _] rfl [] rfl (within_spec _ _ _) rfl ?_
 rintro _ _ ⟨rfl, rfl⟩
 refine vc_guardT 11 rfl rfl ?_
 refine vp ?_
 refine vp ?_
 refine vc_nil ?_
 refine vc_then ?_
 first | refine vc_condP rfl (fun c17 => ?_) (fun c17 => ?_) | refine vc_condN rfl (fun c17 => ?_) (fun c17 => ?_) | refine vc_cond rfl (fun c17 => ?_) (fun c17 => ?_)
 ·skip
  simp [h1, h2] at c17
 ·skip
  refine vc_skip ?_
  refine vc_then ?_
  refine vc_seq ?_
  refine vc_region ?_
  refine vc_y (y_fieldP fl_24_1 1 rfl rfl) rfl ?_
  refine vc_y (y_load1 1 rfl one_3 rfl (Pts.vis rfl)) rfl ?_
  refine vp ?_
  refine vc_callv ca_114 (us := []) (vs := []) rfl [_, _] rfl [] rfl (ring_new ok.r1 ⟨h1, by have := ok.mo; simp only [X0] at this; omega⟩) rfl ?_
  rintro _ _ ⟨bR, rfl, rfl⟩
  iterate 5 refine vp ?_
  refine vc_nil ?_
  refine vc_then ?_
  refine vc_seq ?_
  refine vc_seq ?_
  refine vc_region ?_
  refine vp ?_
  refine vp ?_
  refine vc_nil ?_
  refine vc_then ?_
  first | refine vc_condP rfl (fun c26 => ?_) (fun c26 => ?_) | refine vc_condN rfl (fun c26 => ?_) (fun c26 => ?_) | refine vc_cond rfl (fun c26 => ?_) (fun c26 => ?_)
  ·skip
   simp at c26
  ·skip
   refine vc_skip ?_
   refine vc_then ?_
   refine vc_seq ?_
   refine vc_region ?_
   refine vc_y (y_fieldP fl_24_0 0 rfl rfl) rfl ?_
   refine vc_y (y_load1 2 rfl one_22 rfl (Pts.vis rfl)) rfl ?_
   refine vc_callv ca_101 (us := []) (vs := []) rfl [_] rfl [1] rfl (cloneU_spec hv (Nat.le_trans (labelRight_len ok.lab) (by decide))) rfl ?_
   rintro _ _ ⟨g, rfl, rfl⟩
   refine vc_y (y_fieldP fl_24_0 0 rfl rfl) rfl ?_
   refine vc_storeP 3 rfl [_] [_, _, _, _] rfl rfl rfl sz_22 rfl rfl rfl ?_
   refine vc_nil ?_
   refine vc_then ?_
   refine vc_seq ?_
   refine vc_draw (by kernel_rfl) _ none [3] rfl ?_
   refine tk 0 rfl (by exact y_loadA 0 rfl (cs := [_, _, _, _]) ag_24 rfl (Pts.visA rfl)) ?_
   refine tpp 1 ?_
   refine va_ready [2] (by kernel_rfl) rfl ?_
   refine vo_cons rfl (fun hC0 => ?_) ?_
   ·skip
    refine vc_callv ca_115 (us := []) (vs := []) rfl [] rfl [] rfl (tree_new) rfl ?_
    rintro _ _ ⟨bK, rfl, rfl⟩
    refine vc_nil ?_
    refine vc_then ?_
    refine va_kept hC0 [4] rfl ?_
    clear hC0
    refine tp 3 rfl (by exact y_build [(0, _), (1, _), (2, _)] [_, _, _, _, _, _, _, _, _, _, _] rfl (bu_132_0_1_2 _ _ _ _ _ _ rfl rfl)) ?_
    refine va_ready [4] (by kernel_rfl) rfl ?_
    refine vo_cons rfl (fun hC0 => ?_) ?_
    ·skip
     refine vc_box [_, _, _, _, _, _, _, _, _, _, _] rfl rfl rfl (fun b36 => ?_)
     refine vc_nil ?_
     refine vc_then ?_
     refine va_kept hC0 [5] rfl ?_
     clear hC0
     refine tpp 5 ?_
     refine tpp 6 ?_
     refine va_done (by kernel_rfl) ?_
     refine vc_then ?_
     refine vc_ret ?_
     exact vc_end2 Tryz.results67 rfl rfl _ (ent_at [0, 1, 2, 0, 0] rfl ((ent_cons (ent_cons (ent_cons (ent_cons (sl_new.trans (ent_cons (sl_new.trans (ent_cons (Ent.empL.trans (Ent.sep AllRo.nil Ent.rfl)))))))))).trans (ent_RmO (X := X0 label ring quota most seq) (I := ⟨bR, bK, g, nilS, nilS, [], [], [], []⟩) ⟨rfl, by simp, by simp, rfl, by simp⟩))) ⟨b36, rfl, rfl⟩
    exact vo_nil
   exact vo_nil
theorem open_bad {A : HP} {h : SH} {label : List Int} (hv : Vis A (Rd eU64 h label)) (ring quota most : Int) {seq : Int} (hr : setRight label ring quota most = false ∨ seq < 0 ∨ most < seq) : Does Tryz.prog 67 [.agg #[h.v, .int .i64 ring, .int .i64 quota, .int .i64 most], .int .i64 seq] [A] (fun v l => v = .tuple #[.pointer none, .int .i64 1] ∧ l = [A]) := by
 refine spec_of Tryz.func67 rfl Tryz.ntmps67 Tryz.results67 _ (by simp) fun ι F => ?_
 refine vc_seq ?_
 refine vc_region ?_
 refine vc_box [_, _, _, _] rfl rfl rfl (fun b2 => ?_)
 refine vp ?_
 refine vp ?_
 refine vc_nil ?_
 refine vc_then ?_
 refine vc_seq ?_
 refine vc_seq ?_
 refine vc_region ?_
 refine vc_y (y_loadA 0 rfl (cs := [_, _, _, _]) ag_24 rfl (Pts.visA rfl)) rfl ?_
 refine vc_callv ca_30 (us := []) (vs := []) rfl [_] rfl [1] rfl (rright_spec hv ring quota most) rfl ?_
 rintro _ _ ⟨rfl, rfl⟩
 refine vp ?_
 refine vp ?_
 first | refine vc_splitP 11 rfl (fun c11 => ?_) (fun c11 => ?_) | refine vc_splitN 11 rfl (fun c11 => ?_) (fun c11 => ?_) | refine vc_split 11 rfl (fun c11 => ?_) (fun c11 => ?_)
 ·skip
  refine vc_guardF 11 rfl rfl rfl rfl ?_
  refine vc_guardF 11 rfl rfl rfl rfl ?_
  refine vc_guardF 11 rfl rfl rfl rfl ?_
  refine vc_guardF 11 rfl rfl rfl rfl ?_
  refine vc_guardF 11 rfl rfl rfl rfl ?_
  refine vp ?_
  refine vc_nil ?_
  refine vc_then ?_
  refine vc_condT rfl ?_
  refine vc_seq ?_
  refine vc_region ?_
  refine vp ?_
  refine vp ?_
  refine vc_nil ?_
  refine vc_then ?_
  refine vc_ret ?_
  refine vc_thenRet ?_
  exact vc_end2 Tryz.results67 rfl rfl _ (ent_pick [0] rfl) ⟨rfl, rfl⟩
 ·skip
  refine vc_guardT 11 rfl rfl ?_
  refine vp ?_
  refine vc_guardT 11 rfl rfl ?_
  refine vc_y (y_fieldP fl_24_3 3 rfl rfl) rfl ?_
  refine vc_guardT 11 rfl rfl ?_
  refine vc_y (y_load1 1 rfl one_3 rfl (Pts.vis rfl)) rfl ?_
  refine vc_guardT 11 rfl rfl ?_
  refine vc_callv ca_84 (us := []) (vs := []) rfl [_, _, _] rfl [] rfl (within_spec _ _ _) rfl ?_
  rintro _ _ ⟨rfl, rfl⟩
  refine vc_guardT 11 rfl rfl ?_
  refine vp ?_
  refine vp ?_
  refine vc_nil ?_
  refine vc_then ?_
  first | refine vc_condP rfl (fun c17 => ?_) (fun c17 => ?_) | refine vc_condN rfl (fun c17 => ?_) (fun c17 => ?_) | refine vc_cond rfl (fun c17 => ?_) (fun c17 => ?_)
  ·skip
   refine vc_seq ?_
   refine vc_region ?_
   refine vp ?_
   refine vp ?_
   refine vc_nil ?_
   refine vc_then ?_
   refine vc_ret ?_
   refine vc_thenRet ?_
   exact vc_end2 Tryz.results67 rfl rfl _ (ent_pick [0] rfl) ⟨rfl, rfl⟩
  ·skip
   exfalso
   simp at c11 c17
   rcases hr with h0 | h0 | h0
   ·rw [h0] at c11; cases c11
   ·omega
   ·omega
theorem new_ok {A : HP} {h : SH} {label : List Int} (hv : Vis A (Rd eU64 h label)) (ring quota most : Int) (hr : setRight label ring quota most = true) : Does Tryz.prog 11 [.agg #[h.v, .int .i64 ring, .int .i64 quota, .int .i64 most]] [A] (fun v l => ∃ b, v = verTup b ∧ l = [RoomC b (X0 label ring quota most 0), A]) := by
 refine spec_of Tryz.func11 rfl Tryz.ntmps11 Tryz.results11 _ (by simp) fun ι F => ?_
 refine vc_seq ?_
 refine vc_region ?_
 refine vc_box [_, _, _, _] rfl rfl rfl (fun b1 => ?_)
 refine vp ?_
 refine vp ?_
 refine vc_nil ?_
 refine vc_then ?_
 refine vc_seq ?_
 refine vc_region ?_
 refine vc_y (y_loadA 0 rfl (cs := [_, _, _, _]) ag_24 rfl (Pts.visA rfl)) rfl ?_
 refine vc_callv ca_67 (us := []) (vs := []) rfl [_, _] rfl [1] rfl (open_ok hv ring quota most hr (Int.le_refl 0) (by have := X0_ok hr (Int.le_refl 0) (by simp only [setRight, Bool.and_eq_true, decide_eq_true_eq] at hr; omega); have := this.mo; simp only [X0] at this; omega)) rfl ?_
 rintro _ _ ⟨b, rfl, rfl⟩
 iterate 4 refine vp ?_
 refine vc_nil ?_
 refine vc_then ?_
 refine vc_ret ?_
 exact vc_end2 Tryz.results11 rfl rfl _ (ent_pick [0, 0] rfl) ⟨b, rfl, rfl⟩
theorem new_bad {A : HP} {h : SH} {label : List Int} (hv : Vis A (Rd eU64 h label)) (ring quota most : Int) (hr : setRight label ring quota most = false) : Does Tryz.prog 11 [.agg #[h.v, .int .i64 ring, .int .i64 quota, .int .i64 most]] [A] (fun v l => v = .tuple #[.pointer none, .int .i64 1] ∧ l = [A]) := by
 refine spec_of Tryz.func11 rfl Tryz.ntmps11 Tryz.results11 _ (by simp) fun ι F => ?_
 refine vc_seq ?_
 refine vc_region ?_
 refine vc_box [_, _, _, _] rfl rfl rfl (fun b1 => ?_)
 refine vp ?_
 refine vp ?_
 refine vc_nil ?_
 refine vc_then ?_
 refine vc_seq ?_
 refine vc_region ?_
 refine vc_y (y_loadA 0 rfl (cs := [_, _, _, _]) ag_24 rfl (Pts.visA rfl)) rfl ?_
 refine vc_callv ca_67 (us := []) (vs := []) rfl [_, _] rfl [1] rfl (open_bad hv ring quota most (.inl hr)) rfl ?_
 rintro _ _ ⟨rfl, rfl⟩
 iterate 4 refine vp ?_
 refine vc_nil ?_
 refine vc_then ?_
 refine vc_ret ?_
 exact vc_end2 Tryz.results11 rfl rfl _ (ent_pick [0] rfl) ⟨rfl, rfl⟩
theorem rchain0 {b : Nat} {X : RmX} {I : RmI} (rel : RmRel X I) (key : ByteArray) : Does Tryz.prog 76 [.pointer (some ⟨b, 0, none⟩), .string key] (RmO b X I) (fun v l => v = (chainH I key).v ∧ l = RmO b X I) := by
 refine spec_of Tryz.func76 rfl Tryz.ntmps76 Tryz.results76 _ (by simp) fun ι F => ?_
 refine vc_seq ?_
 refine vc_region ?_
 refine vp ?_
 refine vc_nil ?_
 refine vc_then ?_
 refine vc_seq ?_
 refine vc_seq ?_
 refine vc_region ?_
 refine vp ?_
 refine vc_y (y_eqNil ep_28 rfl rfl) rfl ?_
 refine vc_nil ?_
 refine vc_then ?_
 refine vc_condF rfl ?_
 refine vc_skip ?_
 refine vc_then ?_
 refine vc_seq ?_
 refine vc_region ?_
 refine vp ?_
 refine vp ?_
 refine vc_y (y_fieldP fl_132_2 5 rfl rfl) rfl ?_
 refine vc_y (y_load1 0 rfl one_129 rfl (Pts.vis rfl)) rfl ?_
 refine vp ?_
 refine vc_callv ca_126 (us := []) (vs := []) rfl [_, _] rfl [3] rfl (tree_get key) rfl ?_
 rintro _ _ ⟨rfl, rfl⟩
 iterate 5 refine vp ?_
 refine vc_nil ?_
 refine vc_then ?_
 refine vc_seq ?_
 refine vc_seq ?_
 refine vc_region ?_
 refine vp ?_
 refine vp ?_
 refine vc_nil ?_
 refine vc_then ?_
 first | refine vc_condP rfl (fun c19 => ?_) (fun c19 => ?_) | refine vc_condN rfl (fun c19 => ?_) (fun c19 => ?_) | refine vc_cond rfl (fun c19 => ?_) (fun c19 => ?_)
 ·skip
  have hn : Eng.look I.t key = none := by simpa using c19
  refine vc_seq ?_
  refine vc_region ?_
  refine vp ?_
  refine vc_nil ?_
  refine vc_then ?_
  refine vc_ret ?_
  refine vc_thenRet ?_
  exact vc_end1 Tryz.results76 rfl _ (ent_pick [1, 1, 1, 0, 0, 0, 0] rfl) ⟨by simp [chainH, hn]; rfl, rfl⟩
 ·skip
  obtain ⟨i, hi⟩ : ∃ i, Eng.look I.t key = some i := by
   cases h0 : Eng.look I.t key with
   | none => simp [h0] at c19
   | some i => exact ⟨i, rfl⟩
  obtain ⟨i1, i2⟩ := rel.idx hi
  have i3 : i.toNat < I.hdrs.length := by rw [rel.hl]; exact i2
  refine vc_skip ?_
  refine vc_then ?_
  refine vc_seq ?_
  refine vc_region ?_
  refine vp ?_
  refine vp ?_
  refine vc_y (y_fieldP fl_132_3 6 rfl rfl) rfl ?_
  refine vc_y (y_load1 1 rfl one_130 rfl (Pts.vis rfl)) rfl ?_
  refine vp ?_
  refine vc_y (y_elem 4 rfl (Sl.vis) i.toNat (by rw [hi]; exact (Int.toNat_of_nonneg i1).symm) i3 sl_130 rfl rfl) rfl ?_
  refine vc_y (y_load1 4 rfl one_138 rfl (Rd.vis1 (Sl.vis) (List.getElem?_eq_getElem i3) rfl)) rfl ?_
  refine vp ?_
  refine vc_nil ?_
  refine vc_then ?_
  refine vc_ret ?_
  exact vc_end1 Tryz.results76 rfl _ (ent_pick [1, 1, 1, 0, 0, 0, 0] rfl) ⟨by simp only [chainH, hi]; rw [List.getD_eq_getElem?_getD, List.getElem?_eq_getElem i3]; rfl, rfl⟩
theorem lay_put {b : Nat} {X : RmX} {I : RmI} (rel : RmRel X I) (ok : X.ok) {key : ByteArray} (hk : key.size ≤ 32) {h : SH} {xs : List Ver} (hxb : xs.length ≤ 1000000) (hfk : fnd (ks X.M) key = true) (hne : xs ≠ []) :
  Does Tryz.prog 78 [.pointer (some ⟨b, 0, none⟩), .string key, h.v] (RmO b X I ++ [RoSl eVer h xs]) (fun v l => v = .tuple #[] ∧ l = [RoomC b ⟨X.label, X.ring, X.quota, X.most, X.R, Eng.put1 X.M key xs⟩]) := by
 refine spec_of Tryz.func78 rfl Tryz.ntmps78 Tryz.results78 _ (by simp) fun ι F => ?_
 have hvo := rel.vis key
 have hfb := rel.freeLe
 have hch := ok.chain key
 have hlv := ok.live
 have hcn := ok.count
 have hvs := ok.vers
 have hml := ok.le
 refine vc_see 7 rfl (RoSl.vis.imp fun w r => r.len) (fun hlen => ?_)
 refine vc_see 6 rfl (hvo.imp fun w r => r.len) (fun hold => ?_)
 have hl1 := lives_le (chainM X.M key) hk
 have hl2 := lives_le xs hk
 obtain ⟨i, hi⟩ : ∃ i : Nat, Eng.look I.t key = some (i : Int) := by
  have h0 := hfk
  rw [rel.ks] at h0
  obtain ⟨v, A, B, e1, _⟩ := fnd_split h0
  obtain ⟨i1, _⟩ := rel.idx e1
  exact ⟨v.toNat, by rw [e1, Int.toNat_of_nonneg i1]⟩
 have i2 : i < I.cs.length := (rel.idx hi).2
 have i3 : i < I.hdrs.length := by rw [rel.hl]; exact i2
 have hlk : Eng.look X.M key = some (chainM X.M key) := by
  unfold chainM; rw [rel.look key, hi]; rfl
 have hgv : lookV I.t key = .tuple #[.int .i64 (i : Int), .bool true] := by simp [lookV, hi]
 have hs1 := sum_lives_put hlk xs
 have hs2 := sum_count_put hlk xs
 have hs3 := sum_vers_put hlk xs
 refine vc_seq ?_
 refine vc_region ?_
 refine vp ?_
 refine vp ?_
 refine vc_callv ca_76 (us := []) (vs := []) rfl [_, _] rfl [0, 0, 0, 0, 0, 0, 0] rfl (rchain0 rel key) rfl ?_
 rintro _ _ ⟨rfl, rfl⟩
 refine vp ?_
 refine vc_nil ?_
 refine vc_then ?_
 refine vc_seq ?_
 refine vc_region ?_
 refine vp ?_
 refine vp ?_
 refine vc_y (y_fieldP fl_132_7 10 rfl rfl) rfl ?_
 refine vc_y (y_load1 0 rfl one_3 rfl (Pts.vis rfl)) rfl ?_
 refine vp ?_
 refine vc_y (y_len Tryz.underlying138 rfl hlen) rfl ?_
 refine vp ?_
 refine vc_y (y_len Tryz.underlying138 rfl hold) rfl ?_
 first | refine vc_y (y_arith _ rfl (wrap64 (by omega) (by omega))) rfl ?_ | refine vp ?_
 refine vc_y (y_arith (versM (Eng.put1 X.M key xs)) rfl (by rw [wrap64 (by omega) (by omega)]; omega)) rfl ?_
 refine vp ?_
 refine vc_y (y_fieldP fl_132_7 10 rfl rfl) rfl ?_
 refine vc_storeP 0 rfl [_] [_, _, _, _, _, _, _, _, _, _, _] rfl rfl rfl sz_3 rfl rfl rfl ?_
 refine vc_nil ?_
 refine vc_then ?_
 refine vc_seq ?_
 refine vc_region ?_
 refine vp ?_
 refine vp ?_
 refine vc_callv ca_120 (us := []) (vs := []) rfl [_, _] rfl [6] rfl (lives_spec hvo (by omega) (by omega)) rfl ?_
 rintro _ _ ⟨rfl, rfl⟩
 refine vp ?_
 refine vp ?_
 refine vc_callv ca_120 (us := []) (vs := []) rfl [_, _] rfl [7] rfl (lives_spec RoSl.vis hxb (by omega)) rfl ?_
 rintro _ _ ⟨rfl, rfl⟩
 refine vp ?_
 refine vp ?_
 refine vc_nil ?_
 refine vc_then ?_
 refine vc_seq ?_
 refine vc_region ?_
 refine vp ?_
 refine vp ?_
 refine vc_y (y_fieldP fl_132_5 8 rfl rfl) rfl ?_
 refine vc_y (y_load1 2 rfl one_3 rfl (Pts.vis rfl)) rfl ?_
 refine vp ?_
 refine vp ?_
 first | refine vc_y (y_arith _ rfl (wrap64 (by omega) (by omega))) rfl ?_ | refine vp ?_
 refine vc_y (y_arith (liveM (Eng.put1 X.M key xs)) rfl (by rw [wrap64 (by omega) (by omega)]; omega)) rfl ?_
 refine vp ?_
 refine vc_y (y_fieldP fl_132_5 8 rfl rfl) rfl ?_
 refine vc_storeP 2 rfl [_] [_, _, _, _, _, _, _, _, _, _, _] rfl rfl rfl sz_3 rfl rfl rfl ?_
 refine vc_nil ?_
 refine vc_then ?_
 refine vc_seq ?_
 refine vc_region ?_
 refine vp ?_
 refine vp ?_
 refine vc_y (y_fieldP fl_132_6 9 rfl rfl) rfl ?_
 refine vc_y (y_load1 2 rfl one_3 rfl (Pts.vis rfl)) rfl ?_
 refine vp ?_
 refine vc_y (y_min2 (min (lives key xs) 1) rfl rfl (by split <;> omega)) rfl ?_
 refine vp ?_
 refine vc_y (y_min2 (min (lives key (chainM X.M key)) 1) rfl rfl (by split <;> omega)) rfl ?_
 first | refine vc_y (y_arith _ rfl (wrap64 (by omega) (by omega))) rfl ?_ | refine vp ?_
 refine vc_y (y_arith (countM (Eng.put1 X.M key xs)) rfl (by rw [wrap64 (by omega) (by omega)]; omega)) rfl ?_
 refine vp ?_
 refine vc_y (y_fieldP fl_132_6 9 rfl rfl) rfl ?_
 refine vc_storeP 2 rfl [_] [_, _, _, _, _, _, _, _, _, _, _] rfl rfl rfl sz_3 rfl rfl rfl ?_
 refine vc_nil ?_
 refine vc_then ?_
 refine vc_seq ?_
 refine vc_region ?_
 refine vp ?_
 refine vp ?_
 refine vc_y (y_fieldP fl_132_2 5 rfl rfl) rfl ?_
 refine vc_y (y_load1 2 rfl one_129 rfl (Pts.vis rfl)) rfl ?_
 refine vp ?_
 refine vc_callv ca_126 (us := []) (vs := []) rfl [_, _] rfl [5] rfl (Does.re (tree_get key) hgv) rfl ?_
 rintro _ _ ⟨rfl, rfl⟩
 iterate 5 refine vp ?_
 refine vc_nil ?_
 refine vc_then ?_
 refine vc_block ?_
 refine vc_seq ?_
 refine vc_region ?_
 refine vp ?_
 refine vp ?_
 refine vc_guardT 65 rfl rfl ?_
 refine vp ?_
 refine vc_guardT 65 rfl rfl ?_
 refine vc_y (y_len Tryz.underlying138 rfl hlen) rfl ?_
 refine vc_guardT 65 rfl rfl ?_
 iterate 3 refine vp ?_
 refine vc_nil ?_
 refine vc_then ?_
 first | refine vc_condP rfl (fun c63 => ?_) (fun c63 => ?_) | refine vc_condN rfl (fun c63 => ?_) (fun c63 => ?_) | refine vc_cond rfl (fun c63 => ?_) (fun c63 => ?_)
 ·skip
  exact absurd (List.length_eq_zero_iff.1 (by omega)) hne
 ·skip
  refine vc_seq ?_
  refine vc_region ?_
  refine vp ?_
  refine vp ?_
  refine vc_nil ?_
  refine vc_then ?_
  refine vc_condT rfl ?_
  refine vc_region ?_
  refine vp ?_
  refine vp ?_
  refine vc_y (y_fieldP fl_132_3 6 rfl rfl) rfl ?_
  refine vc_y (y_load1 3 rfl one_130 rfl (Pts.vis rfl)) rfl ?_
  refine vp ?_
  refine vp ?_
  refine vc_y (y_elem 6 rfl (Sl.vis) i rfl i3 sl_130 rfl rfl) rfl ?_
  refine vc_storeE 6 rfl [_] h rfl rfl rfl sz_138 rfl (List.getElem?_eq_getElem i3) (Nat.le_of_ble_eq_true rfl) rfl ?_
  refine vc_nil ?_
  refine vc_inNormal ?_
  exact vc_end0n Tryz.results78 _ ((ent_at [3, 3, 3, 0, 2, 2, 0, 0] rfl (ent_cons (ent_cons (ent_cons (ent_cons (ent_cons (ent_cons (ent_two AllRo.set)))))))).trans (ent_RmO0 (rel.put1 hi h xs))) ⟨rfl, rfl⟩
theorem lay_del {b : Nat} {X : RmX} {I : RmI} (rel : RmRel X I) (ok : X.ok) {key : ByteArray} (hk : key.size ≤ 32) {h : SH} {xs : List Ver} (hxb : xs.length ≤ 1000000) (hfk : fnd (ks X.M) key = true) (hne : xs = []) :
  Does Tryz.prog 78 [.pointer (some ⟨b, 0, none⟩), .string key, h.v] (RmO b X I ++ [RoSl eVer h xs]) (fun v l => v = .tuple #[] ∧ l = [RoomC b ⟨X.label, X.ring, X.quota, X.most, X.R, Eng.dlt X.M key⟩]) := by
 refine spec_of Tryz.func78 rfl Tryz.ntmps78 Tryz.results78 _ (by simp) fun ι F => ?_
 have hvo := rel.vis key
 have hfb := rel.freeLe
 have hch := ok.chain key
 have hlv := ok.live
 have hcn := ok.count
 have hvs := ok.vers
 have hml := ok.le
 refine vc_see 7 rfl (RoSl.vis.imp fun w r => r.len) (fun hlen => ?_)
 refine vc_see 6 rfl (hvo.imp fun w r => r.len) (fun hold => ?_)
 have hl1 := lives_le (chainM X.M key) hk
 have hl2 := lives_le xs hk
 obtain ⟨i, hi⟩ : ∃ i : Nat, Eng.look I.t key = some (i : Int) := by
  have h0 := hfk
  rw [rel.ks] at h0
  obtain ⟨v, A, B, e1, _⟩ := fnd_split h0
  obtain ⟨i1, _⟩ := rel.idx e1
  exact ⟨v.toNat, by rw [e1, Int.toNat_of_nonneg i1]⟩
 have i2 : i < I.cs.length := (rel.idx hi).2
 have i3 : i < I.hdrs.length := by rw [rel.hl]; exact i2
 have hlk : Eng.look X.M key = some (chainM X.M key) := by
  unfold chainM; rw [rel.look key, hi]; rfl
 have hgv : lookV I.t key = .tuple #[.int .i64 (i : Int), .bool true] := by simp [lookV, hi]
 have hs1 := sum_lives_dlt hlk
 have hs2 := sum_count_dlt hlk
 have hs3 := sum_vers_dlt hlk
 have hln : lives key xs = 0 := by rw [hne]; exact lives_nil key
 have hxl : xs.length = 0 := by rw [hne]; rfl
 refine vc_seq ?_
 refine vc_region ?_
 refine vp ?_
 refine vp ?_
 refine vc_callv ca_76 (us := []) (vs := []) rfl [_, _] rfl [0, 0, 0, 0, 0, 0, 0] rfl (rchain0 rel key) rfl ?_
 rintro _ _ ⟨rfl, rfl⟩
 refine vp ?_
 refine vc_nil ?_
 refine vc_then ?_
 refine vc_seq ?_
 refine vc_region ?_
 refine vp ?_
 refine vp ?_
 refine vc_y (y_fieldP fl_132_7 10 rfl rfl) rfl ?_
 refine vc_y (y_load1 0 rfl one_3 rfl (Pts.vis rfl)) rfl ?_
 refine vp ?_
 refine vc_y (y_len Tryz.underlying138 rfl hlen) rfl ?_
 refine vp ?_
 refine vc_y (y_len Tryz.underlying138 rfl hold) rfl ?_
 first | refine vc_y (y_arith _ rfl (wrap64 (by omega) (by omega))) rfl ?_ | refine vp ?_
 refine vc_y (y_arith (versM (Eng.dlt X.M key)) rfl (by rw [wrap64 (by omega) (by omega)]; omega)) rfl ?_
 refine vp ?_
 refine vc_y (y_fieldP fl_132_7 10 rfl rfl) rfl ?_
 refine vc_storeP 0 rfl [_] [_, _, _, _, _, _, _, _, _, _, _] rfl rfl rfl sz_3 rfl rfl rfl ?_
 refine vc_nil ?_
 refine vc_then ?_
 refine vc_seq ?_
 refine vc_region ?_
 refine vp ?_
 refine vp ?_
 refine vc_callv ca_120 (us := []) (vs := []) rfl [_, _] rfl [6] rfl (lives_spec hvo (by omega) (by omega)) rfl ?_
 rintro _ _ ⟨rfl, rfl⟩
 refine vp ?_
 refine vp ?_
 refine vc_callv ca_120 (us := []) (vs := []) rfl [_, _] rfl [7] rfl (lives_spec RoSl.vis hxb (by omega)) rfl ?_
 rintro _ _ ⟨rfl, rfl⟩
 refine vp ?_
 refine vp ?_
 refine vc_nil ?_
 refine vc_then ?_
 refine vc_seq ?_
 refine vc_region ?_
 refine vp ?_
 refine vp ?_
 refine vc_y (y_fieldP fl_132_5 8 rfl rfl) rfl ?_
 refine vc_y (y_load1 2 rfl one_3 rfl (Pts.vis rfl)) rfl ?_
 refine vp ?_
 refine vp ?_
 first | refine vc_y (y_arith _ rfl (wrap64 (by omega) (by omega))) rfl ?_ | refine vp ?_
 refine vc_y (y_arith (liveM (Eng.dlt X.M key)) rfl (by rw [wrap64 (by omega) (by omega)]; omega)) rfl ?_
 refine vp ?_
 refine vc_y (y_fieldP fl_132_5 8 rfl rfl) rfl ?_
 refine vc_storeP 2 rfl [_] [_, _, _, _, _, _, _, _, _, _, _] rfl rfl rfl sz_3 rfl rfl rfl ?_
 refine vc_nil ?_
 refine vc_then ?_
 refine vc_seq ?_
 refine vc_region ?_
 refine vp ?_
 refine vp ?_
 refine vc_y (y_fieldP fl_132_6 9 rfl rfl) rfl ?_
 refine vc_y (y_load1 2 rfl one_3 rfl (Pts.vis rfl)) rfl ?_
 refine vp ?_
 refine vc_y (y_min2 (min (lives key xs) 1) rfl rfl (by split <;> omega)) rfl ?_
 refine vp ?_
 refine vc_y (y_min2 (min (lives key (chainM X.M key)) 1) rfl rfl (by split <;> omega)) rfl ?_
 first | refine vc_y (y_arith _ rfl (wrap64 (by omega) (by omega))) rfl ?_ | refine vp ?_
 refine vc_y (y_arith (countM (Eng.dlt X.M key)) rfl (by rw [wrap64 (by omega) (by omega)]; omega)) rfl ?_
 refine vp ?_
 refine vc_y (y_fieldP fl_132_6 9 rfl rfl) rfl ?_
 refine vc_storeP 2 rfl [_] [_, _, _, _, _, _, _, _, _, _, _] rfl rfl rfl sz_3 rfl rfl rfl ?_
 refine vc_nil ?_
 refine vc_then ?_
 refine vc_seq ?_
 refine vc_region ?_
 refine vp ?_
 refine vp ?_
 refine vc_y (y_fieldP fl_132_2 5 rfl rfl) rfl ?_
 refine vc_y (y_load1 2 rfl one_129 rfl (Pts.vis rfl)) rfl ?_
 refine vp ?_
 refine vc_callv ca_126 (us := []) (vs := []) rfl [_, _] rfl [5] rfl (Does.re (tree_get key) hgv) rfl ?_
 rintro _ _ ⟨rfl, rfl⟩
 iterate 5 refine vp ?_
 refine vc_nil ?_
 refine vc_then ?_
 refine vc_block ?_
 refine vc_seq ?_
 refine vc_region ?_
 refine vp ?_
 refine vp ?_
 refine vc_guardT 65 rfl rfl ?_
 refine vp ?_
 refine vc_guardT 65 rfl rfl ?_
 refine vc_y (y_len Tryz.underlying138 rfl hlen) rfl ?_
 refine vc_guardT 65 rfl rfl ?_
 iterate 3 refine vp ?_
 refine vc_nil ?_
 refine vc_then ?_
 first | refine vc_condP rfl (fun c63 => ?_) (fun c63 => ?_) | refine vc_condN rfl (fun c63 => ?_) (fun c63 => ?_) | refine vc_cond rfl (fun c63 => ?_) (fun c63 => ?_)
 ·skip
  refine vc_seq ?_
  refine vc_region ?_
  refine vp ?_
  refine vp ?_
  refine vc_y (y_fieldP fl_132_2 5 rfl rfl) rfl ?_
  refine vc_y (y_load1 3 rfl one_129 rfl (Pts.vis rfl)) rfl ?_
  refine vp ?_
  refine vc_callv ca_129 (us := []) (vs := []) rfl [_, _] rfl [0] rfl (tree_del key ((fnd_iff (rel.ks ▸ ok.rise)).1 (rel.ks ▸ hfk))) rfl ?_
  rintro _ _ ⟨rfl, rfl⟩
  refine vc_nil ?_
  refine vc_then ?_
  refine vc_seq ?_
  refine vc_region ?_
  refine vp ?_
  refine vp ?_
  refine vc_y (y_fieldP fl_132_3 6 rfl rfl) rfl ?_
  refine vc_y (y_load1 3 rfl one_130 rfl (Pts.vis rfl)) rfl ?_
  refine vp ?_
  refine vc_y (y_elem 6 rfl (Sl.vis) i rfl i3 sl_130 rfl rfl) rfl ?_
  refine vc_storeE 6 rfl [_] nilS rfl rfl rfl sz_138 rfl (List.getElem?_eq_getElem i3) (Nat.le_of_ble_eq_true rfl) rfl ?_
  refine vc_nil ?_
  refine vc_then ?_
  refine vc_region ?_
  iterate 3 refine vp ?_
  refine vc_y (y_fieldP fl_132_4 7 rfl rfl) rfl ?_
  refine vc_y (y_load1 3 rfl one_72 rfl (Pts.vis rfl)) rfl ?_
  refine vp ?_
  refine vc_buildSlice (E := eNat) [(0, _)] [i] rfl rfl (bs_72_1 _ rfl) rfl (fun h88 => ?_)
  refine vc_append 8 rfl 0 rfl (Sl.vis) el_72_eNat Tryz.underlying72 rfl rfl (by simp; omega) (by simp; omega) rfl (fun h89 => ?_)
  refine vp ?_
  refine vc_y (y_fieldP fl_132_4 7 rfl rfl) rfl ?_
  refine vc_storeP 4 rfl [_] [_, _, _, _, _, _, _, _, _, _, _] rfl rfl rfl sz_72 rfl rfl rfl ?_
  refine vc_nil ?_
  refine vc_inNormal ?_
  exact vc_end0n Tryz.results78 _ ((ent_at [4, 4, 4, 1, 3, 3, 2] rfl (ent_cons (ent_cons (ent_cons (ent_cons (ent_cons (ent_cons ((Ent.empL.trans (Ent.sep RoSl.nil Ent.rfl)).trans (ent_two AllRo.set))))))))).trans (ent_RmO0 (rel.dlt hi h89))) ⟨rfl, rfl⟩
 ·skip
  rw [hne] at c63; simp at c63
theorem lay_ins {b : Nat} {X : RmX} {I : RmI} (rel : RmRel X I) (ok : X.ok) {key : ByteArray} (hk : key.size ≤ 32) {h : SH} {xs : List Ver} (hxb : xs.length ≤ 1000000) (hfk : fnd (ks X.M) key = false) (hne : xs ≠ []) (hlt : X.M.length < 100000) :
  Does Tryz.prog 78 [.pointer (some ⟨b, 0, none⟩), .string key, h.v] (RmO b X I ++ [RoSl eVer h xs]) (fun v l => v = .tuple #[] ∧ l = [RoomC b ⟨X.label, X.ring, X.quota, X.most, X.R, Eng.ins X.M key xs⟩]) := by
 refine spec_of Tryz.func78 rfl Tryz.ntmps78 Tryz.results78 _ (by simp) fun ι F => ?_
 have hvo := rel.vis key
 have hfb := rel.freeLe
 have hch := ok.chain key
 have hlv := ok.live
 have hcn := ok.count
 have hvs := ok.vers
 have hml := ok.le
 refine vc_see 7 rfl (RoSl.vis.imp fun w r => r.len) (fun hlen => ?_)
 refine vc_see 6 rfl (hvo.imp fun w r => r.len) (fun hold => ?_)
 have hl1 := lives_le (chainM X.M key) hk
 have hl2 := lives_le xs hk
 have hkt : key ∉ ks I.t := fun h0 => by rw [← rel.ks] at h0; rw [(fnd_iff ok.rise).2 h0] at hfk; cases hfk
 have htl : I.t.length < 100000 := by have := congrArg List.length rel.m; rw [List.length_map] at this; omega
 have hli : Eng.look I.t key = none := by unfold Eng.look; rw [← rel.ks, hfk]; rfl
 have hgv : lookV I.t key = .tuple #[.int .i64 0, .bool false] := by simp [lookV, hli]
 have hlx : chainM X.M key = [] := by unfold chainM; rw [rel.look key, hli]; rfl
 have hln : lives key (chainM X.M key) = 0 := by rw [hlx]; exact lives_nil key
 have hl0 : (chainM X.M key).length = 0 := by rw [hlx]; rfl
 have hs1 := sum_lives_ins X.M key xs
 have hs2 := sum_count_ins X.M key xs
 have hs3 := sum_vers_ins X.M key xs
 refine vc_see 5 rfl (Sl.vis.imp fun w r => (⟨r.len, r.cap⟩ : I.hf.len = I.free.length ∧ I.free.length ≤ I.hf.cap)) (fun hflc => ?_)
 obtain ⟨hfl, hfc⟩ := hflc
 refine vc_see 4 rfl (Sl.vis.imp fun w r => r.len) (fun hcl => ?_)
 rw [rel.hl] at hcl
 refine vc_seq ?_
 refine vc_region ?_
 refine vp ?_
 refine vp ?_
 refine vc_callv ca_76 (us := []) (vs := []) rfl [_, _] rfl [0, 0, 0, 0, 0, 0, 0] rfl (rchain0 rel key) rfl ?_
 rintro _ _ ⟨rfl, rfl⟩
 refine vp ?_
 refine vc_nil ?_
 refine vc_then ?_
 refine vc_seq ?_
 refine vc_region ?_
 refine vp ?_
 refine vp ?_
 refine vc_y (y_fieldP fl_132_7 10 rfl rfl) rfl ?_
 refine vc_y (y_load1 0 rfl one_3 rfl (Pts.vis rfl)) rfl ?_
 refine vp ?_
 refine vc_y (y_len Tryz.underlying138 rfl hlen) rfl ?_
 refine vp ?_
 refine vc_y (y_len Tryz.underlying138 rfl hold) rfl ?_
 first | refine vc_y (y_arith _ rfl (wrap64 (by omega) (by omega))) rfl ?_ | refine vp ?_
 refine vc_y (y_arith (versM (Eng.ins X.M key xs)) rfl (by rw [wrap64 (by omega) (by omega)]; omega)) rfl ?_
 refine vp ?_
 refine vc_y (y_fieldP fl_132_7 10 rfl rfl) rfl ?_
 refine vc_storeP 0 rfl [_] [_, _, _, _, _, _, _, _, _, _, _] rfl rfl rfl sz_3 rfl rfl rfl ?_
 refine vc_nil ?_
 refine vc_then ?_
 refine vc_seq ?_
 refine vc_region ?_
 refine vp ?_
 refine vp ?_
 refine vc_callv ca_120 (us := []) (vs := []) rfl [_, _] rfl [6] rfl (lives_spec hvo (by omega) (by omega)) rfl ?_
 rintro _ _ ⟨rfl, rfl⟩
 refine vp ?_
 refine vp ?_
 refine vc_callv ca_120 (us := []) (vs := []) rfl [_, _] rfl [7] rfl (lives_spec RoSl.vis hxb (by omega)) rfl ?_
 rintro _ _ ⟨rfl, rfl⟩
 refine vp ?_
 refine vp ?_
 refine vc_nil ?_
 refine vc_then ?_
 refine vc_seq ?_
 refine vc_region ?_
 refine vp ?_
 refine vp ?_
 refine vc_y (y_fieldP fl_132_5 8 rfl rfl) rfl ?_
 refine vc_y (y_load1 2 rfl one_3 rfl (Pts.vis rfl)) rfl ?_
 refine vp ?_
 refine vp ?_
 first | refine vc_y (y_arith _ rfl (wrap64 (by omega) (by omega))) rfl ?_ | refine vp ?_
 refine vc_y (y_arith (liveM (Eng.ins X.M key xs)) rfl (by rw [wrap64 (by omega) (by omega)]; omega)) rfl ?_
 refine vp ?_
 refine vc_y (y_fieldP fl_132_5 8 rfl rfl) rfl ?_
 refine vc_storeP 2 rfl [_] [_, _, _, _, _, _, _, _, _, _, _] rfl rfl rfl sz_3 rfl rfl rfl ?_
 refine vc_nil ?_
 refine vc_then ?_
 refine vc_seq ?_
 refine vc_region ?_
 refine vp ?_
 refine vp ?_
 refine vc_y (y_fieldP fl_132_6 9 rfl rfl) rfl ?_
 refine vc_y (y_load1 2 rfl one_3 rfl (Pts.vis rfl)) rfl ?_
 refine vp ?_
 refine vc_y (y_min2 (min (lives key xs) 1) rfl rfl (by split <;> omega)) rfl ?_
 refine vp ?_
 refine vc_y (y_min2 (min (lives key (chainM X.M key)) 1) rfl rfl (by split <;> omega)) rfl ?_
 first | refine vc_y (y_arith _ rfl (wrap64 (by omega) (by omega))) rfl ?_ | refine vp ?_
 refine vc_y (y_arith (countM (Eng.ins X.M key xs)) rfl (by rw [wrap64 (by omega) (by omega)]; omega)) rfl ?_
 refine vp ?_
 refine vc_y (y_fieldP fl_132_6 9 rfl rfl) rfl ?_
 refine vc_storeP 2 rfl [_] [_, _, _, _, _, _, _, _, _, _, _] rfl rfl rfl sz_3 rfl rfl rfl ?_
 refine vc_nil ?_
 refine vc_then ?_
 refine vc_seq ?_
 refine vc_region ?_
 refine vp ?_
 refine vp ?_
 refine vc_y (y_fieldP fl_132_2 5 rfl rfl) rfl ?_
 refine vc_y (y_load1 2 rfl one_129 rfl (Pts.vis rfl)) rfl ?_
 refine vp ?_
 refine vc_callv ca_126 (us := []) (vs := []) rfl [_, _] rfl [5] rfl (Does.re (tree_get key) hgv) rfl ?_
 rintro _ _ ⟨rfl, rfl⟩
 iterate 5 refine vp ?_
 refine vc_nil ?_
 refine vc_then ?_
 refine vc_block ?_
 refine vc_seq ?_
 refine vc_region ?_
 refine vp ?_
 refine vp ?_
 refine vc_guardF 65 rfl rfl rfl rfl ?_
 refine vc_guardF 65 rfl rfl rfl rfl ?_
 refine vc_guardF 65 rfl rfl rfl rfl ?_
 refine vp ?_
 refine vp ?_
 refine vc_nil ?_
 refine vc_then ?_
 refine vc_condF rfl ?_
 refine vc_seq ?_
 refine vc_region ?_
 refine vp ?_
 refine vp ?_
 refine vc_nil ?_
 refine vc_then ?_
 refine vc_condF rfl ?_
 refine vc_seq ?_
 refine vc_region ?_
 refine vp ?_
 refine vc_y (y_len Tryz.underlying138 rfl hlen) rfl ?_
 refine vp ?_
 refine vp ?_
 first | refine vc_splitP 105 rfl (fun c105 => ?_) (fun c105 => ?_) | refine vc_splitN 105 rfl (fun c105 => ?_) (fun c105 => ?_) | refine vc_split 105 rfl (fun c105 => ?_) (fun c105 => ?_)
 ·skip
  refine vc_guardT 105 rfl rfl ?_
  refine vp ?_
  refine vc_guardT 105 rfl rfl ?_
  refine vp ?_
  refine vc_guardT 105 rfl rfl ?_
  refine vc_y (y_fieldP fl_132_4 7 rfl rfl) rfl ?_
  refine vc_guardT 105 rfl rfl ?_
  refine vc_y (y_load1 3 rfl one_72 rfl (Pts.vis rfl)) rfl ?_
  refine vc_guardT 105 rfl rfl ?_
  refine vc_y (y_len Tryz.underlying72 rfl hfl) rfl ?_
  refine vc_guardT 105 rfl rfl ?_
  iterate 3 refine vp ?_
  refine vc_nil ?_
  refine vc_then ?_
  first | refine vc_condP rfl (fun c101 => ?_) (fun c101 => ?_) | refine vc_condN rfl (fun c101 => ?_) (fun c101 => ?_) | refine vc_cond rfl (fun c101 => ?_) (fun c101 => ?_)
  ·skip
   obtain ⟨fr, i, hf⟩ : ∃ fr i, I.free = fr ++ [i] := by
    rcases List.eq_nil_or_concat I.free with e | ⟨fr, i, e⟩
    ·rw [e] at c101; simp at c101
    ·exact ⟨fr, i, by rw [e, List.concat_eq_append]⟩
   have hfl2 : I.free.length = fr.length + 1 := by rw [hf]; simp
   have i2 : i < I.cs.length := (nodup_range_perm rel.perm).2.1 i (by rw [hf]; simp)
   have i3 : i < I.hdrs.length := by rw [rel.hl]; exact i2
   refine vc_seq ?_
   refine vc_draw (by kernel_rfl) _ none [3, 6] rfl ?_
   refine tpp 0 ?_
   refine tpp 1 ?_
   refine tp 2 rfl (by exact y_fieldP fl_132_4 7 rfl rfl) ?_
   refine tk 3 rfl (by exact y_load1 0 rfl one_72 rfl (Pts.vis rfl)) ?_
   refine tpp 4 ?_
   refine tpp 5 ?_
   refine tp 6 rfl (by exact y_fieldP fl_132_4 7 rfl rfl) ?_
   refine tk 7 rfl (by exact y_load1 0 rfl one_72 rfl (Pts.vis rfl)) ?_
   refine tp 8 rfl (by exact y_len Tryz.underlying72 rfl hfl) ?_
   refine tp 9 rfl (by exact y_arith (fr.length : Int) rfl (by rw [wrap64 (by omega) (by omega)]; omega)) ?_
   refine tk 10 rfl (by exact y_elem 1 rfl (Sl.vis) fr.length rfl (by omega) sl_72 rfl rfl) ?_
   refine tk 11 rfl (by exact y_load1 1 rfl one_3 rfl (Rd.vis1 (Sl.vis) (show I.free[fr.length]? = some i by rw [hf]; simp) rfl)) ?_
   refine tpp 12 ?_
   refine va_done (by kernel_rfl) ?_
   refine vc_then ?_
   refine vc_seq ?_
   refine vc_draw (by kernel_rfl) _ (some 14) [3] rfl ?_
   refine tpp 0 ?_
   refine tpp 1 ?_
   refine tpp 2 ?_
   refine tp 3 rfl (by exact y_fieldP fl_132_4 7 rfl rfl) ?_
   refine tk 4 rfl (by exact y_load1 0 rfl one_72 rfl (Pts.vis rfl)) ?_
   refine tpp 5 ?_
   refine tpp 6 ?_
   refine tp 7 rfl (by exact y_fieldP fl_132_4 7 rfl rfl) ?_
   refine tk 8 rfl (by exact y_load1 0 rfl one_72 rfl (Pts.vis rfl)) ?_
   refine tp 9 rfl (by exact y_len Tryz.underlying72 rfl hfl) ?_
   refine tp 10 rfl (by exact y_arith (fr.length : Int) rfl (by rw [wrap64 (by omega) (by omega)]; omega)) ?_
   refine tp 11 rfl (by exact y_slice sl_72 rfl 0 fr.length I.hf.cap rfl ⟨_, _, rfl, rfl⟩ rfl (by simp) (by omega) (by omega) (by omega)) ?_
   refine tpp 12 ?_
   refine tp 13 rfl (by exact y_fieldP fl_132_4 7 rfl rfl) ?_
   refine va_ready [14] (by kernel_rfl) rfl ?_
   refine vo_cons rfl (fun hC0 => ?_) ?_
   ·skip
    refine vc_storeP 3 rfl [_] [_, _, _, _, _, _, _, _, _, _, _] rfl rfl rfl sz_72 rfl rfl rfl ?_
    refine vc_nil ?_
    refine vc_then ?_
    refine va_gone hC0 (by kernel_rfl) ?_
    clear hC0
    refine va_done (by kernel_rfl) ?_
    refine vc_then ?_
    refine vc_seq ?_
    refine vc_region ?_
    refine vp ?_
    refine vp ?_
    refine vc_y (y_fieldP fl_132_3 6 rfl rfl) rfl ?_
    refine vc_y (y_load1 3 rfl one_130 rfl (Pts.vis rfl)) rfl ?_
    refine vp ?_
    refine vp ?_
    refine vc_y (y_elem 6 rfl (Sl.vis) i rfl i3 sl_130 rfl rfl) rfl ?_
    refine vc_storeE 6 rfl [_] h rfl rfl rfl sz_138 rfl (List.getElem?_eq_getElem i3) (Nat.le_of_ble_eq_true rfl) rfl ?_
    refine vc_nil ?_
    refine vc_then ?_
    refine vc_region ?_
    refine vp ?_
    refine vp ?_
    refine vc_y (y_fieldP fl_132_2 5 rfl rfl) rfl ?_
    refine vc_y (y_load1 3 rfl one_129 rfl (Pts.vis rfl)) rfl ?_
    refine vp ?_
    refine vp ?_
    refine vc_callv ca_130 (us := []) (vs := []) rfl [_, _, _] rfl [0] rfl (tree_put key (i : Int) hkt htl) rfl ?_
    rintro _ _ ⟨rfl, rfl⟩
    refine vc_nil ?_
    refine vc_inNormal ?_
    exact vc_end0n Tryz.results78 _ ((ent_at [3, 3, 3, 0, 2, 2, 0, 0] rfl (ent_cons (ent_cons (ent_cons (ent_cons (ent_cons ((ent_head (B := Sl eNat (I.hf.cut 1 0 fr.length I.hf.cap) fr) (by have := Sl.cut (E := eNat) (h := I.hf) (xs := I.free) (lo := 0) (hi := fr.length) (mx := I.hf.cap) (Nat.zero_le _) (by omega) (by omega) (Nat.le_refl _); rw [List.drop_zero, hf, List.take_left] at this; rw [hf]; exact this)).trans (ent_cons (ent_two AllRo.set))))))))).trans (ent_RmO0 (rel.insF (key := key) hf h (I.hf.cut 1 0 fr.length I.hf.cap) xs))) ⟨rfl, rfl⟩
   exact vo_nil
  ·skip
   have hf : I.free = [] := List.length_eq_zero_iff.1 (by omega)
   refine vc_seq ?_
   refine vc_region ?_
   refine vp ?_
   refine vc_y (y_len Tryz.underlying138 rfl hlen) rfl ?_
   refine vp ?_
   refine vp ?_
   refine vc_nil ?_
   refine vc_then ?_
   first | refine vc_condP rfl (fun c153 => ?_) (fun c153 => ?_) | refine vc_condN rfl (fun c153 => ?_) (fun c153 => ?_) | refine vc_cond rfl (fun c153 => ?_) (fun c153 => ?_)
   ·skip
    refine vc_seq ?_
    refine vc_draw (by kernel_rfl) _ none [3] rfl ?_
    refine tpp 0 ?_
    refine tpp 1 ?_
    refine tp 2 rfl (by exact y_fieldP fl_132_2 5 rfl rfl) ?_
    refine tk 3 rfl (by exact y_load1 0 rfl one_129 rfl (Pts.vis rfl)) ?_
    refine tpp 4 ?_
    refine tpp 5 ?_
    refine tpp 6 ?_
    refine tp 7 rfl (by exact y_fieldP fl_132_3 6 rfl rfl) ?_
    refine tk 8 rfl (by exact y_load1 0 rfl one_130 rfl (Pts.vis rfl)) ?_
    refine tp 9 rfl (by exact y_len Tryz.underlying130 rfl hcl) ?_
    refine va_ready [10] (by kernel_rfl) rfl ?_
    refine vo_cons rfl (fun hC0 => ?_) ?_
    ·skip
     refine vc_callv ca_130 (us := []) (vs := []) rfl [_, _, _] rfl [0] rfl (tree_put key (I.cs.length : Int) hkt htl) rfl ?_
     rintro _ _ ⟨rfl, rfl⟩
     refine vc_nil ?_
     refine vc_then ?_
     refine va_kept hC0 [3] rfl ?_
     clear hC0
     refine va_done (by kernel_rfl) ?_
     refine vc_then ?_
     refine vc_region ?_
     iterate 3 refine vp ?_
     refine vc_y (y_fieldP fl_132_3 6 rfl rfl) rfl ?_
     refine vc_y (y_load1 3 rfl one_130 rfl (Pts.vis rfl)) rfl ?_
     refine vp ?_
     refine vc_buildSlice (E := eVS) [(0, _)] [h] rfl rfl (bs_130_1 _ rfl) rfl (fun h174 => ?_)
     refine vc_append 7 rfl 0 rfl (Sl.vis) el_130_eVS Tryz.underlying130 rfl rfl (by have := rel.hl; have := rel.le; simp; omega) (by have := rel.hl; have := rel.le; simp; omega) rfl (fun h175 => ?_)
     refine vp ?_
     refine vc_y (y_fieldP fl_132_3 6 rfl rfl) rfl ?_
     refine vc_storeP 4 rfl [_] [_, _, _, _, _, _, _, _, _, _, _] rfl rfl rfl sz_130 rfl rfl rfl ?_
     refine vc_nil ?_
     refine vc_inNormal ?_
     exact vc_end0n Tryz.results78 _ ((ent_at [4, 4, 4, 1, 3, 3, 1, 1] rfl (ent_cons (ent_cons (ent_cons (ent_cons (ent_cons (ent_cons (ent_two (AllRo.push rel.hl))))))))).trans (ent_RmO0 (rel.insN (key := key) hf h h175 xs hlt))) ⟨rfl, rfl⟩
    exact vo_nil
   ·skip
    exact absurd (List.length_eq_zero_iff.1 (by omega)) hne
 ·skip
  exact absurd (List.length_eq_zero_iff.1 (by omega)) hne
end Go.Proofs.YtcpbibdbahfgaaaGreat
