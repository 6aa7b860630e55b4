/-
 The walk of Del.
-/
import Derived.Test.YtcpbibdbahfgaaaGreatTree9
set_option linter.unusedVariables false
set_option linter.unusedSimpArgs false
set_option autoImplicit false
set_option maxHeartbeats 4000000
namespace Go.Proofs.YtcpbibdbahfgaaaGreat
open Go.Eng
namespace FTree10
theorem fl_204_0 : Fld Tryz.prog 204 0 0 := ⟨_, _, 0, Tryz.underlying204, rfl, rfl, by kernel_rfl⟩
theorem one_202 : TyOne Tryz.prog 202 := ⟨⟨_, Tryz.underlying202, rfl⟩, by kernel_rfl⟩
theorem ze_231 : (Tryz.prog.info? 231).map (·.zero) = some (some (.agg #[.slice none 0 0, .slice none 0 0, .slice none 0 0])) := by kernel_rfl
theorem bu_231_n   (w : World) : (Instr.build 231 #[]).run Tryz.prog w = .ok (.agg #[.slice none 0 0, .slice none 0 0, .slice none 0 0]) w := by
 have hz := @ze_231
 exact Go.Eng.run_build (pl := [(0, 1), (1, 1), (2, 1)]) hz Tryz.underlying231 (by kernel_rfl) rfl (by simp [Instr.fill, cells_agg]) w
theorem sl_202 : TySl Tryz.prog 202 231 3 := ⟨Tryz.underlying202, by kernel_rfl⟩
theorem sz_231 : (Tryz.prog.info? 231).map (·.size) = some 3 := by kernel_rfl
theorem fl_204_1 : Fld Tryz.prog 204 1 1 := ⟨_, _, 0, Tryz.underlying204, rfl, rfl, by kernel_rfl⟩
theorem one_72 : TyOne Tryz.prog 72 := ⟨⟨_, Tryz.underlying72, rfl⟩, by kernel_rfl⟩
theorem sz_3 : (Tryz.prog.info? 3).map (·.size) = some 1 := by kernel_rfl
theorem ze_3 : (Tryz.prog.info? 3).map (·.zero) = some (some (.int .i64 0)) := by kernel_rfl
theorem bs_72_1 (v0 : Value) (h0 : v0.cells = #[v0]) (w : World) : (Instr.buildSlice 72 1 #[(0, v0)]).run Tryz.prog w = .ok (.slice (some ⟨w.heap.size, 0, none⟩) 1 1) { w with heap := w.heap.push (.cells #[v0] 3 (0, 0)) } :=
 Go.Eng.run_buildSlice Tryz.underlying72 sz_3 ze_3 (by decide) (by rw [show Array.range (1 * 1) = #[0] from by decide]; simp [Instr.fill, cells_agg, h0]) w
theorem el_72_eNat : TyEl Tryz.prog 72 eNat 8 := ⟨Tryz.underlying72, .int .i64 0, by kernel_rfl, rfl⟩
theorem sz_72 : (Tryz.prog.info? 72).map (·.size) = some 1 := by kernel_rfl
theorem ca_126 : Callable Tryz.prog 126 := ⟨_, _, Tryz.func126, rfl, rfl⟩
theorem fl_204_3 : Fld Tryz.prog 204 3 3 := ⟨_, _, 0, Tryz.underlying204, rfl, rfl, by kernel_rfl⟩
theorem one_3 : TyOne Tryz.prog 3 := ⟨⟨_, Tryz.underlying3, rfl⟩, by kernel_rfl⟩
theorem fl_204_2 : Fld Tryz.prog 204 2 2 := ⟨_, _, 0, Tryz.underlying204, rfl, rfl, by kernel_rfl⟩
theorem ca_161 : Callable Tryz.prog 161 := ⟨_, _, Tryz.func161, rfl, rfl⟩
theorem ag_231 : TyAgg Tryz.prog 231 3 := ⟨⟨_, Tryz.underlying231, rfl⟩, by kernel_rfl⟩
theorem fl_231_2 : Fld Tryz.prog 231 2 2 := ⟨_, _, 0, Tryz.underlying231, rfl, rfl, by kernel_rfl⟩
theorem ca_162 : Callable Tryz.prog 162 := ⟨_, _, Tryz.func162, rfl, rfl⟩
theorem sl_72 : TySl Tryz.prog 72 3 1 := ⟨Tryz.underlying72, by kernel_rfl⟩
theorem ca_163 : Callable Tryz.prog 163 := ⟨_, _, Tryz.func163, rfl, rfl⟩
theorem fl_231_0 : Fld Tryz.prog 231 0 0 := ⟨_, _, 0, Tryz.underlying231, rfl, rfl, by kernel_rfl⟩
theorem one_136 : TyOne Tryz.prog 136 := ⟨⟨_, Tryz.underlying136, rfl⟩, by kernel_rfl⟩
end FTree10
open FTree10
theorem drop_core {b : Nat} {fr : List Nat} {r : Option Nat} {m : Int} {hl hf : SH} {hs : List Nd3} {i : Nat} {h0 : Nd3} (hh : hs[i]? = some h0) (hb : fr.length ≤ 1000000) :
  Does Tryz.prog 162 [.pointer (some ⟨b, 0, none⟩), .int .i64 (i : Int)] [Pts b [hl.v, hf.v, .int .i64 (rootV r), .int .i64 m] 204, Sl eNode hl hs, Sl eNat hf fr] (fun v l2 => ∃ hf', v = .tuple #[] ∧ l2 = [Pts b [hl.v, hf'.v, .int .i64 (rootV r), .int .i64 m] 204, Sl eNode hl (hs.set i nil3), Sl eNat hf' (fr ++ [i])]) := by
 refine spec_of Tryz.func162 rfl Tryz.ntmps162 Tryz.results162 _ (by simp) fun ι F => ?_
 refine vc_seq ?_
 refine vc_region ?_
 refine vp ?_
 refine vp ?_
 refine vc_y (y_fieldP fl_204_0 0 rfl rfl) rfl ?_
 refine vc_y (y_load1 0 rfl one_202 rfl (Pts.vis rfl)) rfl ?_
 refine vp ?_
 refine vc_y (y_build [] [_, _, _] rfl (bu_231_n  )) rfl ?_
 refine vc_y (y_elem 1 rfl (Sl.vis) i rfl (getLt hh) sl_202 rfl rfl) rfl ?_
 refine vc_storeE 1 rfl [_, _, _] nil3 rfl rfl rfl sz_231 rfl hh (Nat.le_of_ble_eq_true rfl) rfl ?_
 refine vc_nil ?_
 refine vc_then ?_
 refine vc_region ?_
 iterate 3 refine vp ?_
 refine vc_y (y_fieldP fl_204_1 1 rfl rfl) rfl ?_
 refine vc_y (y_load1 0 rfl one_72 rfl (Pts.vis rfl)) rfl ?_
 refine vp ?_
 refine vc_buildSlice (E := eNat) [(0, _)] [i] rfl rfl (bs_72_1 _ rfl) rfl (fun h17 => ?_)
 refine vc_append 3 rfl 0 rfl (Sl.vis) el_72_eNat Tryz.underlying72 rfl rfl (by simp; omega) (by simp; omega) rfl (fun h18 => ?_)
 refine vp ?_
 refine vc_y (y_fieldP fl_204_1 1 rfl rfl) rfl ?_
 refine vc_storeP 1 rfl [_] [_, _, _, _] rfl rfl rfl sz_72 rfl rfl rfl ?_
 refine vc_nil ?_
 exact vc_end0n Tryz.results162 _ (ent_pick [1, 1, 1] rfl) ⟨h18, rfl, rfl⟩
theorem Del_none {b : Nat} {l : List Nd} {fr : List Nat} {m : Int} {hl hf : SH} {hs : List Nd3} (key : ByteArray) :
  Does Tryz.prog 129 [.pointer (some ⟨b, 0, none⟩), .string key] (TO b ⟨l, fr, none, m⟩ hl hf hs) (fun v l2 => v = .tuple #[.int .i64 0, .bool false] ∧ l2 = TO b ⟨l, fr, none, m⟩ hl hf hs) := by
 refine spec_of Tryz.func129 rfl Tryz.ntmps129 Tryz.results129 _ (by simp) fun ι F => ?_
 refine vc_seq ?_
 refine vc_region ?_
 refine vp ?_
 refine vp ?_
 refine vc_nil ?_
 refine vc_then ?_
 refine vc_seq ?_
 refine vc_region ?_
 refine vp ?_
 refine vp ?_
 refine vc_callv ca_126 (us := []) (vs := []) rfl [_, _] rfl [0, 0, 0, 0] rfl (get_none key) rfl ?_
 rintro _ _ ⟨rfl, rfl⟩
 iterate 5 refine vp ?_
 refine vc_nil ?_
 refine vc_then ?_
 refine vc_seq ?_
 refine vc_seq ?_
 refine vc_region ?_
 refine vp ?_
 refine vp ?_
 refine vc_nil ?_
 refine vc_then ?_
 refine vc_condT rfl ?_
 refine vc_seq ?_
 refine vc_region ?_
 refine vp ?_
 refine vp ?_
 refine vc_nil ?_
 refine vc_then ?_
 refine vc_ret ?_
 refine vc_thenRet ?_
 exact vc_end2 Tryz.results129 rfl rfl _ (ent_pick [0, 0, 0, 0] rfl) ⟨rfl, rfl⟩
theorem Del_miss {b : Nat} {l : List Nd} {fr : List Nat} {r : Nat} {m : Int} {hl hf0 : SH} {hs : List Nd3} (hlen : hs.length = l.length) (hR : RiseAll l) (key : ByteArray) {fu jl : Nat} {d : Nd} (hdsc : dsc fu l r key = some jl) (hjd : l[jl]? = some d) (hn : d.nums.length = d.keys.length) (hf : fnd d.keys key = false) :
  Does Tryz.prog 129 [.pointer (some ⟨b, 0, none⟩), .string key] (TO b ⟨l, fr, some r, m⟩ hl hf0 hs) (fun v l2 => v = .tuple #[.int .i64 0, .bool false] ∧ l2 = TO b ⟨l, fr, some r, m⟩ hl hf0 hs) := by
 refine spec_of Tryz.func129 rfl Tryz.ntmps129 Tryz.results129 _ (by simp) fun ι F => ?_
 refine vc_seq ?_
 refine vc_region ?_
 refine vp ?_
 refine vp ?_
 refine vc_nil ?_
 refine vc_then ?_
 refine vc_seq ?_
 refine vc_region ?_
 refine vp ?_
 refine vp ?_
 refine vc_callv ca_126 (us := []) (vs := []) rfl [_, _] rfl [0, 0, 0, 0] rfl (get_some hlen hR key hdsc hjd hn) rfl ?_
 rintro _ _ ⟨rfl, rfl⟩
 iterate 5 refine vp ?_
 refine vc_nil ?_
 refine vc_then ?_
 refine vc_seq ?_
 refine vc_seq ?_
 refine vc_region ?_
 refine vp ?_
 refine vp ?_
 refine vc_nil ?_
 refine vc_then ?_
 first | refine vc_condP rfl (fun c16 => ?_) (fun c16 => ?_) | refine vc_condN rfl (fun c16 => ?_) (fun c16 => ?_) | refine vc_cond rfl (fun c16 => ?_) (fun c16 => ?_)
 ·skip
  refine vc_seq ?_
  refine vc_region ?_
  refine vp ?_
  refine vp ?_
  refine vc_nil ?_
  refine vc_then ?_
  refine vc_ret ?_
  refine vc_thenRet ?_
  exact vc_end2 Tryz.results129 rfl rfl _ (ent_pick [0, 0, 0, 0] rfl) ⟨rfl, rfl⟩
 ·skip
  simp [getN, hf] at c16
  done
theorem Del_down {b : Nat} {l : List Nd} {fr : List Nat} {r : Nat} {m : Int} {hl hf0 : SH} {hs : List Nd3} (hlen : hs.length = l.length) (hR : RiseAll l) (key : ByteArray) {fu jl : Nat} {d : Nd} (hdsc : dsc fu l r key = some jl) (hjd : l[jl]? = some d) (hn : d.nums.length = d.keys.length) (hf : fnd d.keys key = true) (hm0 : 0 ≤ m) (hm : m ≤ 100000) {fd : Nat} {l1 : List Nd} {fr1 : List Nat} {dr : Nd} (hD : DelR key fd l fr r l1 fr1) (hdr : l1[r]? = some dr) (hfr : fr1.length ≤ 1000000) {c : Nat} (hk : dr.kids = [c]) :
  Does Tryz.prog 129 [.pointer (some ⟨b, 0, none⟩), .string key] (TO b ⟨l, fr, some r, m⟩ hl hf0 hs) (fun v l2 => ∃ hf' hs', hs'.length = (l1.set r nd0).length ∧ v = .tuple #[.int .i64 (d.nums.getD (lb d.keys key) 0), .bool true] ∧ l2 = TO b ⟨l1.set r nd0, fr1 ++ [r], some c, (m - 1)⟩ hl hf' hs') := by
 refine spec_of Tryz.func129 rfl Tryz.ntmps129 Tryz.results129 _ (by simp) fun ι F => ?_
 refine vc_seq ?_
 refine vc_region ?_
 refine vp ?_
 refine vp ?_
 refine vc_nil ?_
 refine vc_then ?_
 refine vc_seq ?_
 refine vc_region ?_
 refine vp ?_
 refine vp ?_
 refine vc_callv ca_126 (us := []) (vs := []) rfl [_, _] rfl [0, 0, 0, 0] rfl (get_some hlen hR key hdsc hjd hn) rfl ?_
 rintro _ _ ⟨rfl, rfl⟩
 iterate 5 refine vp ?_
 refine vc_nil ?_
 refine vc_then ?_
 refine vc_seq ?_
 refine vc_seq ?_
 refine vc_region ?_
 refine vp ?_
 refine vp ?_
 refine vc_nil ?_
 refine vc_then ?_
 first | refine vc_condP rfl (fun c16 => ?_) (fun c16 => ?_) | refine vc_condN rfl (fun c16 => ?_) (fun c16 => ?_) | refine vc_cond rfl (fun c16 => ?_) (fun c16 => ?_)
 ·skip
  simp [getN, hf] at c16
 ·skip
  refine vc_skip ?_
  refine vc_then ?_
  refine vc_seq ?_
  refine vc_region ?_
  refine vp ?_
  refine vp ?_
  refine vc_y (y_fieldP fl_204_3 3 rfl rfl) rfl ?_
  refine vc_y (y_load1 0 rfl one_3 rfl (Pts.vis rfl)) rfl ?_
  refine vc_y (y_arith (m - 1) rfl (wrap64 (x := m - 1) (by omega) (by omega))) rfl ?_
  refine vp ?_
  refine vc_y (y_fieldP fl_204_3 3 rfl rfl) rfl ?_
  refine vc_storeP 0 rfl [_] [_, _, _, _] rfl rfl rfl sz_3 rfl rfl rfl ?_
  refine vc_nil ?_
  refine vc_then ?_
  refine vc_seq ?_
  refine vc_region ?_
  iterate 3 refine vp ?_
  refine vc_y (y_fieldP fl_204_2 2 rfl rfl) rfl ?_
  refine vc_y (y_load1 0 rfl one_3 rfl (Pts.vis rfl)) rfl ?_
  refine vp ?_
  refine vc_callv ca_161 (us := []) (vs := []) rfl [_, _, _] rfl [0, 0, 0, 0] rfl (del_spec (r := some r) (m := m - 1) hlen key fd r l1 fr1 hD) rfl ?_
  rintro _ _ ⟨hf1, hs1, ln1, rfl, rfl⟩
  obtain ⟨hr, hhr⟩ := getSome ln1 hdr
  refine vc_see 3 rfl ((Nodes.visK hhr hdr).imp fun w r => r.len) (fun ekr => ?_)
  refine vc_see 3 rfl ((Nodes.visN hhr hdr).imp fun w r => r.len) (fun enr => ?_)
  refine vc_see 3 rfl ((Nodes.visC hhr hdr).imp fun w r => r.len) (fun ecr => ?_)
  refine vc_nil ?_
  refine vc_then ?_
  refine vc_seq ?_
  refine vc_seq ?_
  refine vc_draw (by kernel_rfl) _ none [0, 0, 0, 0] rfl ?_
  refine tpp 0 ?_
  refine tpp 1 ?_
  refine tp 2 rfl (by exact y_fieldP fl_204_0 0 rfl rfl) ?_
  refine tk 3 rfl (by exact y_load1 0 rfl one_202 rfl (Pts.vis rfl)) ?_
  refine tpp 4 ?_
  refine tpp 5 ?_
  refine tp 6 rfl (by exact y_fieldP fl_204_2 2 rfl rfl) ?_
  refine tk 7 rfl (by exact y_load1 0 rfl one_3 rfl (Pts.vis rfl)) ?_
  refine tk 8 rfl (by exact y_elem 1 rfl (Sl.vis) r rfl (getLt hhr) sl_202 rfl rfl) ?_
  refine tk 9 rfl (by exact y_loadA 1 rfl (cs := [_, _, _]) ag_231 rfl (Rd.visA (Sl.vis) hhr rfl)) ?_
  refine va_ready [10] (by kernel_rfl) rfl ?_
  refine vo_cons rfl (fun hC0 => ?_) ?_
  ·skip
   refine vc_alloc [.slice none 0 0, .slice none 0 0, .slice none 0 0] ze_231 rfl rfl (fun b8 => ?_)
   refine vc_nil ?_
   refine vc_then ?_
   refine va_kept hC0 [1, 1, 1, 1] rfl ?_
   clear hC0
   refine va_ready [11] (by kernel_rfl) rfl ?_
   refine vo_cons rfl (fun hC0 => ?_) ?_
   ·skip
    refine vc_storeP 0 rfl [_, _, _] [_, _, _] rfl rfl rfl sz_231 rfl rfl rfl ?_
    refine vc_nil ?_
    refine vc_then ?_
    refine va_kept hC0 [1, 1, 1, 1] rfl ?_
    clear hC0
    refine va_done (by kernel_rfl) ?_
    refine vc_then ?_
    refine vc_block ?_
    refine vc_seq ?_
    refine vc_region ?_
    refine vc_y (y_fieldP fl_231_2 2 rfl rfl) rfl ?_
    refine vc_y (y_load1 0 rfl one_72 rfl (Pts.vis rfl)) rfl ?_
    refine vc_y (y_len Tryz.underlying72 rfl ecr) rfl ?_
    refine vp ?_
    refine vp ?_
    refine vc_nil ?_
    refine vc_then ?_
    first | refine vc_condP rfl (fun c41 => ?_) (fun c41 => ?_) | refine vc_condN rfl (fun c41 => ?_) (fun c41 => ?_) | refine vc_cond rfl (fun c41 => ?_) (fun c41 => ?_)
    ·skip
     refine vc_seq ?_
     refine vc_region ?_
     iterate 3 refine vp ?_
     refine vc_y (y_fieldP fl_204_2 2 rfl rfl) rfl ?_
     refine vc_y (y_load1 1 rfl one_3 rfl (Pts.vis rfl)) rfl ?_
     refine vc_openN 4 rfl hhr hdr ?_
     refine vc_callv ca_162 (us := []) (vs := []) rfl [_, _] rfl [5, 5, 5] rfl (drop_core hhr hfr) rfl ?_
     rintro _ _ ⟨hf', rfl, rfl⟩
     refine vc_nil ?_
     refine vc_then ?_
     refine vc_region ?_
     refine vp ?_
     refine vc_y (y_fieldP fl_231_2 2 rfl rfl) rfl ?_
     refine vc_y (y_load1 7 rfl one_72 rfl (Pts.vis rfl)) rfl ?_
     refine vc_y (y_elem 5 rfl (Sl.vis) 0 rfl (by rw [hk]; simp) sl_72 rfl rfl) rfl ?_
     refine vc_y (y_load1 5 rfl one_3 rfl (Rd.vis1 (Sl.vis) (show dr.kids[0]? = some c by rw [hk]; rfl) rfl)) rfl ?_
     refine vp ?_
     refine vc_y (y_fieldP fl_204_2 2 rfl rfl) rfl ?_
     refine vc_storeP 0 rfl [_] [_, _, _, _] rfl rfl rfl sz_3 rfl rfl rfl ?_
     refine vc_nil ?_
     refine vc_inNormal ?_
     refine vc_then ?_
     refine vc_seq ?_
     refine vc_region ?_
     iterate 3 refine vp ?_
     refine vc_nil ?_
     refine vc_then ?_
     refine vc_ret ?_
     exact vc_end2 Tryz.results129 rfl rfl _ (by simp only [TO, ← NodesX.nil]; exact ent_at [0, 0, 0, 3] rfl (ent_cons (ent_cons (ent_cons (Ent.trans (Ent.empL.trans ((Ent.sep NodeC.nil Ent.rfl).trans Ent.assoc')) (Ent.sep (NodesX.into (ho := []) (hs' := hs1.set r nil3) (ds' := l1.set r nd0) List.not_mem_nil (List.getElem?_set_self (getLt hhr)) (List.getElem?_set_self (getLt hdr)) List.length_set (fun j hj _ => List.getElem?_set_ne (Ne.symm hj)) (fun j hj _ => List.getElem?_set_ne (Ne.symm hj))) Ent.rfl)))))) ⟨hf', hs1.set r nil3, by simp [ln1], by simp [getN, hf], rfl⟩
    ·skip
     rw [hk] at c41; simp at c41
   exact vo_nil
  exact vo_nil
theorem Del_last {b : Nat} {l : List Nd} {fr : List Nat} {r : Nat} {m : Int} {hl hf0 : SH} {hs : List Nd3} (hlen : hs.length = l.length) (hR : RiseAll l) (key : ByteArray) {fu jl : Nat} {d : Nd} (hdsc : dsc fu l r key = some jl) (hjd : l[jl]? = some d) (hn : d.nums.length = d.keys.length) (hf : fnd d.keys key = true) (hm0 : 0 ≤ m) (hm : m ≤ 100000) {fd : Nat} {l1 : List Nd} {fr1 : List Nat} {dr : Nd} (hD : DelR key fd l fr r l1 fr1) (hdr : l1[r]? = some dr) (hfr : fr1.length ≤ 1000000) (hk : dr.kids = []) (hk2 : dr.keys = []) :
  Does Tryz.prog 129 [.pointer (some ⟨b, 0, none⟩), .string key] (TO b ⟨l, fr, some r, m⟩ hl hf0 hs) (fun v l2 => ∃ hf' hs', hs'.length = (l1.set r nd0).length ∧ v = .tuple #[.int .i64 (d.nums.getD (lb d.keys key) 0), .bool true] ∧ l2 = TO b ⟨l1.set r nd0, fr1 ++ [r], none, (m - 1)⟩ hl hf' hs') := by
 refine spec_of Tryz.func129 rfl Tryz.ntmps129 Tryz.results129 _ (by simp) fun ι F => ?_
 refine vc_seq ?_
 refine vc_region ?_
 refine vp ?_
 refine vp ?_
 refine vc_nil ?_
 refine vc_then ?_
 refine vc_seq ?_
 refine vc_region ?_
 refine vp ?_
 refine vp ?_
 refine vc_callv ca_126 (us := []) (vs := []) rfl [_, _] rfl [0, 0, 0, 0] rfl (get_some hlen hR key hdsc hjd hn) rfl ?_
 rintro _ _ ⟨rfl, rfl⟩
 iterate 5 refine vp ?_
 refine vc_nil ?_
 refine vc_then ?_
 refine vc_seq ?_
 refine vc_seq ?_
 refine vc_region ?_
 refine vp ?_
 refine vp ?_
 refine vc_nil ?_
 refine vc_then ?_
 first | refine vc_condP rfl (fun c16 => ?_) (fun c16 => ?_) | refine vc_condN rfl (fun c16 => ?_) (fun c16 => ?_) | refine vc_cond rfl (fun c16 => ?_) (fun c16 => ?_)
 ·skip
  simp [getN, hf] at c16
 ·skip
  refine vc_skip ?_
  refine vc_then ?_
  refine vc_seq ?_
  refine vc_region ?_
  refine vp ?_
  refine vp ?_
  refine vc_y (y_fieldP fl_204_3 3 rfl rfl) rfl ?_
  refine vc_y (y_load1 0 rfl one_3 rfl (Pts.vis rfl)) rfl ?_
  refine vc_y (y_arith (m - 1) rfl (wrap64 (x := m - 1) (by omega) (by omega))) rfl ?_
  refine vp ?_
  refine vc_y (y_fieldP fl_204_3 3 rfl rfl) rfl ?_
  refine vc_storeP 0 rfl [_] [_, _, _, _] rfl rfl rfl sz_3 rfl rfl rfl ?_
  refine vc_nil ?_
  refine vc_then ?_
  refine vc_seq ?_
  refine vc_region ?_
  iterate 3 refine vp ?_
  refine vc_y (y_fieldP fl_204_2 2 rfl rfl) rfl ?_
  refine vc_y (y_load1 0 rfl one_3 rfl (Pts.vis rfl)) rfl ?_
  refine vp ?_
  refine vc_callv ca_161 (us := []) (vs := []) rfl [_, _, _] rfl [0, 0, 0, 0] rfl (del_spec (r := some r) (m := m - 1) hlen key fd r l1 fr1 hD) rfl ?_
  rintro _ _ ⟨hf1, hs1, ln1, rfl, rfl⟩
  obtain ⟨hr, hhr⟩ := getSome ln1 hdr
  refine vc_see 3 rfl ((Nodes.visK hhr hdr).imp fun w r => r.len) (fun ekr => ?_)
  refine vc_see 3 rfl ((Nodes.visN hhr hdr).imp fun w r => r.len) (fun enr => ?_)
  refine vc_see 3 rfl ((Nodes.visC hhr hdr).imp fun w r => r.len) (fun ecr => ?_)
  refine vc_nil ?_
  refine vc_then ?_
  refine vc_seq ?_
  refine vc_seq ?_
  refine vc_draw (by kernel_rfl) _ none [0, 0, 0, 0] rfl ?_
  refine tpp 0 ?_
  refine tpp 1 ?_
  refine tp 2 rfl (by exact y_fieldP fl_204_0 0 rfl rfl) ?_
  refine tk 3 rfl (by exact y_load1 0 rfl one_202 rfl (Pts.vis rfl)) ?_
  refine tpp 4 ?_
  refine tpp 5 ?_
  refine tp 6 rfl (by exact y_fieldP fl_204_2 2 rfl rfl) ?_
  refine tk 7 rfl (by exact y_load1 0 rfl one_3 rfl (Pts.vis rfl)) ?_
  refine tk 8 rfl (by exact y_elem 1 rfl (Sl.vis) r rfl (getLt hhr) sl_202 rfl rfl) ?_
  refine tk 9 rfl (by exact y_loadA 1 rfl (cs := [_, _, _]) ag_231 rfl (Rd.visA (Sl.vis) hhr rfl)) ?_
  refine va_ready [10] (by kernel_rfl) rfl ?_
  refine vo_cons rfl (fun hC0 => ?_) ?_
  ·skip
   refine vc_alloc [.slice none 0 0, .slice none 0 0, .slice none 0 0] ze_231 rfl rfl (fun b8 => ?_)
   refine vc_nil ?_
   refine vc_then ?_
   refine va_kept hC0 [1, 1, 1, 1] rfl ?_
   clear hC0
   refine va_ready [11] (by kernel_rfl) rfl ?_
   refine vo_cons rfl (fun hC0 => ?_) ?_
   ·skip
    refine vc_storeP 0 rfl [_, _, _] [_, _, _] rfl rfl rfl sz_231 rfl rfl rfl ?_
    refine vc_nil ?_
    refine vc_then ?_
    refine va_kept hC0 [1, 1, 1, 1] rfl ?_
    clear hC0
    refine va_done (by kernel_rfl) ?_
    refine vc_then ?_
    refine vc_block ?_
    refine vc_seq ?_
    refine vc_region ?_
    refine vc_y (y_fieldP fl_231_2 2 rfl rfl) rfl ?_
    refine vc_y (y_load1 0 rfl one_72 rfl (Pts.vis rfl)) rfl ?_
    refine vc_y (y_len Tryz.underlying72 rfl ecr) rfl ?_
    refine vp ?_
    refine vp ?_
    refine vc_nil ?_
    refine vc_then ?_
    first | refine vc_condP rfl (fun c41 => ?_) (fun c41 => ?_) | refine vc_condN rfl (fun c41 => ?_) (fun c41 => ?_) | refine vc_cond rfl (fun c41 => ?_) (fun c41 => ?_)
    ·skip
     rw [hk] at c41; simp at c41
    ·skip
     refine vc_seq ?_
     refine vc_region ?_
     refine vc_callv ca_163 (us := []) (vs := []) rfl [_] rfl [0] rfl (leaf_specD (h := hr) (d := dr) (by rw [add_lit]; exact Pts.vis rfl) ecr) rfl ?_
     rintro _ _ ⟨rfl, rfl⟩
     refine vp ?_
     first | refine vc_splitP 61 rfl (fun c61 => ?_) (fun c61 => ?_) | refine vc_splitN 61 rfl (fun c61 => ?_) (fun c61 => ?_) | refine vc_split 61 rfl (fun c61 => ?_) (fun c61 => ?_)
     ·skip
      refine vc_guardT 61 rfl rfl ?_
      refine vc_y (y_fieldP fl_231_0 0 rfl rfl) rfl ?_
      refine vc_guardT 61 rfl rfl ?_
      refine vc_y (y_load1 0 rfl one_136 rfl (Pts.vis rfl)) rfl ?_
      refine vc_guardT 61 rfl rfl ?_
      refine vc_y (y_len Tryz.underlying136 rfl ekr) rfl ?_
      refine vc_guardT 61 rfl rfl ?_
      iterate 3 refine vp ?_
      refine vc_nil ?_
      refine vc_then ?_
      first | refine vc_condP rfl (fun c59 => ?_) (fun c59 => ?_) | refine vc_condN rfl (fun c59 => ?_) (fun c59 => ?_) | refine vc_cond rfl (fun c59 => ?_) (fun c59 => ?_)
      ·skip
       refine vc_seq ?_
       refine vc_region ?_
       iterate 3 refine vp ?_
       refine vc_y (y_fieldP fl_204_2 2 rfl rfl) rfl ?_
       refine vc_y (y_load1 1 rfl one_3 rfl (Pts.vis rfl)) rfl ?_
       refine vc_openN 4 rfl hhr hdr ?_
       refine vc_callv ca_162 (us := []) (vs := []) rfl [_, _] rfl [5, 5, 5] rfl (drop_core hhr hfr) rfl ?_
       rintro _ _ ⟨hf', rfl, rfl⟩
       refine vc_nil ?_
       refine vc_then ?_
       refine vc_region ?_
       refine vp ?_
       refine vp ?_
       refine vc_y (y_fieldP fl_204_2 2 rfl rfl) rfl ?_
       refine vc_storeP 0 rfl [_] [_, _, _, _] rfl rfl rfl sz_3 rfl rfl rfl ?_
       refine vc_nil ?_
       refine vc_inNormal ?_
       refine vc_then ?_
       refine vc_seq ?_
       refine vc_region ?_
       iterate 3 refine vp ?_
       refine vc_nil ?_
       refine vc_then ?_
       refine vc_ret ?_
       exact vc_end2 Tryz.results129 rfl rfl _ (by simp only [TO, ← NodesX.nil]; exact ent_at [0, 0, 0, 3] rfl (ent_cons (ent_cons (ent_cons (Ent.trans (Ent.empL.trans ((Ent.sep NodeC.nil Ent.rfl).trans Ent.assoc')) (Ent.sep (NodesX.into (ho := []) (hs' := hs1.set r nil3) (ds' := l1.set r nd0) List.not_mem_nil (List.getElem?_set_self (getLt hhr)) (List.getElem?_set_self (getLt hdr)) List.length_set (fun j hj _ => List.getElem?_set_ne (Ne.symm hj)) (fun j hj _ => List.getElem?_set_ne (Ne.symm hj))) Ent.rfl)))))) ⟨hf', hs1.set r nil3, by simp [ln1], by simp [getN, hf], rfl⟩
      ·skip
       rw [hk2] at c59; simp at c59
     ·skip
      exact absurd hk c61
   exact vo_nil
  exact vo_nil
theorem Del_stay {b : Nat} {l : List Nd} {fr : List Nat} {r : Nat} {m : Int} {hl hf0 : SH} {hs : List Nd3} (hlen : hs.length = l.length) (hR : RiseAll l) (key : ByteArray) {fu jl : Nat} {d : Nd} (hdsc : dsc fu l r key = some jl) (hjd : l[jl]? = some d) (hn : d.nums.length = d.keys.length) (hf : fnd d.keys key = true) (hm0 : 0 ≤ m) (hm : m ≤ 100000) {fd : Nat} {l1 : List Nd} {fr1 : List Nat} {dr : Nd} (hD : DelR key fd l fr r l1 fr1) (hdr : l1[r]? = some dr) (hfr : fr1.length ≤ 1000000) (hk : dr.kids.length ≠ 1) (hk2 : dr.kids = [] → dr.keys ≠ []) :
  Does Tryz.prog 129 [.pointer (some ⟨b, 0, none⟩), .string key] (TO b ⟨l, fr, some r, m⟩ hl hf0 hs) (fun v l2 => ∃ hf' hs', hs'.length = (l1).length ∧ v = .tuple #[.int .i64 (d.nums.getD (lb d.keys key) 0), .bool true] ∧ l2 = TO b ⟨l1, fr1, some r, (m - 1)⟩ hl hf' hs') := by
 refine spec_of Tryz.func129 rfl Tryz.ntmps129 Tryz.results129 _ (by simp) fun ι F => ?_
 refine vc_seq ?_
 refine vc_region ?_
 refine vp ?_
 refine vp ?_
 refine vc_nil ?_
 refine vc_then ?_
 refine vc_seq ?_
 refine vc_region ?_
 refine vp ?_
 refine vp ?_
 refine vc_callv ca_126 (us := []) (vs := []) rfl [_, _] rfl [0, 0, 0, 0] rfl (get_some hlen hR key hdsc hjd hn) rfl ?_
 rintro _ _ ⟨rfl, rfl⟩
 iterate 5 refine vp ?_
 refine vc_nil ?_
 refine vc_then ?_
 refine vc_seq ?_
 refine vc_seq ?_
 refine vc_region ?_
 refine vp ?_
 refine vp ?_
 refine vc_nil ?_
 refine vc_then ?_
 first | refine vc_condP rfl (fun c16 => ?_) (fun c16 => ?_) | refine vc_condN rfl (fun c16 => ?_) (fun c16 => ?_) | refine vc_cond rfl (fun c16 => ?_) (fun c16 => ?_)
 ·skip
  simp [getN, hf] at c16
 ·skip
  refine vc_skip ?_
  refine vc_then ?_
  refine vc_seq ?_
  refine vc_region ?_
  refine vp ?_
  refine vp ?_
  refine vc_y (y_fieldP fl_204_3 3 rfl rfl) rfl ?_
  refine vc_y (y_load1 0 rfl one_3 rfl (Pts.vis rfl)) rfl ?_
  refine vc_y (y_arith (m - 1) rfl (wrap64 (x := m - 1) (by omega) (by omega))) rfl ?_
  refine vp ?_
  refine vc_y (y_fieldP fl_204_3 3 rfl rfl) rfl ?_
  refine vc_storeP 0 rfl [_] [_, _, _, _] rfl rfl rfl sz_3 rfl rfl rfl ?_
  refine vc_nil ?_
  refine vc_then ?_
  refine vc_seq ?_
  refine vc_region ?_
  iterate 3 refine vp ?_
  refine vc_y (y_fieldP fl_204_2 2 rfl rfl) rfl ?_
  refine vc_y (y_load1 0 rfl one_3 rfl (Pts.vis rfl)) rfl ?_
  refine vp ?_
  refine vc_callv ca_161 (us := []) (vs := []) rfl [_, _, _] rfl [0, 0, 0, 0] rfl (del_spec (r := some r) (m := m - 1) hlen key fd r l1 fr1 hD) rfl ?_
  rintro _ _ ⟨hf1, hs1, ln1, rfl, rfl⟩
  obtain ⟨hr, hhr⟩ := getSome ln1 hdr
  refine vc_see 3 rfl ((Nodes.visK hhr hdr).imp fun w r => r.len) (fun ekr => ?_)
  refine vc_see 3 rfl ((Nodes.visN hhr hdr).imp fun w r => r.len) (fun enr => ?_)
  refine vc_see 3 rfl ((Nodes.visC hhr hdr).imp fun w r => r.len) (fun ecr => ?_)
  refine vc_nil ?_
  refine vc_then ?_
  refine vc_seq ?_
  refine vc_seq ?_
  refine vc_draw (by kernel_rfl) _ none [0, 0, 0, 0] rfl ?_
  refine tpp 0 ?_
  refine tpp 1 ?_
  refine tp 2 rfl (by exact y_fieldP fl_204_0 0 rfl rfl) ?_
  refine tk 3 rfl (by exact y_load1 0 rfl one_202 rfl (Pts.vis rfl)) ?_
  refine tpp 4 ?_
  refine tpp 5 ?_
  refine tp 6 rfl (by exact y_fieldP fl_204_2 2 rfl rfl) ?_
  refine tk 7 rfl (by exact y_load1 0 rfl one_3 rfl (Pts.vis rfl)) ?_
  refine tk 8 rfl (by exact y_elem 1 rfl (Sl.vis) r rfl (getLt hhr) sl_202 rfl rfl) ?_
  refine tk 9 rfl (by exact y_loadA 1 rfl (cs := [_, _, _]) ag_231 rfl (Rd.visA (Sl.vis) hhr rfl)) ?_
  refine va_ready [10] (by kernel_rfl) rfl ?_
  refine vo_cons rfl (fun hC0 => ?_) ?_
  ·skip
   refine vc_alloc [.slice none 0 0, .slice none 0 0, .slice none 0 0] ze_231 rfl rfl (fun b8 => ?_)
   refine vc_nil ?_
   refine vc_then ?_
   refine va_kept hC0 [1, 1, 1, 1] rfl ?_
   clear hC0
   refine va_ready [11] (by kernel_rfl) rfl ?_
   refine vo_cons rfl (fun hC0 => ?_) ?_
   ·skip
    refine vc_storeP 0 rfl [_, _, _] [_, _, _] rfl rfl rfl sz_231 rfl rfl rfl ?_
    refine vc_nil ?_
    refine vc_then ?_
    refine va_kept hC0 [1, 1, 1, 1] rfl ?_
    clear hC0
    refine va_done (by kernel_rfl) ?_
    refine vc_then ?_
    refine vc_block ?_
    refine vc_seq ?_
    refine vc_region ?_
    refine vc_y (y_fieldP fl_231_2 2 rfl rfl) rfl ?_
    refine vc_y (y_load1 0 rfl one_72 rfl (Pts.vis rfl)) rfl ?_
    refine vc_y (y_len Tryz.underlying72 rfl ecr) rfl ?_
    refine vp ?_
    refine vp ?_
    refine vc_nil ?_
    refine vc_then ?_
    first | refine vc_condP rfl (fun c41 => ?_) (fun c41 => ?_) | refine vc_condN rfl (fun c41 => ?_) (fun c41 => ?_) | refine vc_cond rfl (fun c41 => ?_) (fun c41 => ?_)
    ·skip
     omega
    ·skip
     refine vc_seq ?_
     refine vc_region ?_
     refine vc_callv ca_163 (us := []) (vs := []) rfl [_] rfl [0] rfl (leaf_specD (h := hr) (d := dr) (by rw [add_lit]; exact Pts.vis rfl) ecr) rfl ?_
     rintro _ _ ⟨rfl, rfl⟩
     refine vp ?_
     first | refine vc_splitP 61 rfl (fun c61 => ?_) (fun c61 => ?_) | refine vc_splitN 61 rfl (fun c61 => ?_) (fun c61 => ?_) | refine vc_split 61 rfl (fun c61 => ?_) (fun c61 => ?_)
     ·skip
      have hk3 : dr.keys.length ≠ 0 := fun h0 => hk2 c61 (List.eq_nil_of_length_eq_zero h0)
      refine vc_guardT 61 rfl rfl ?_
      refine vc_y (y_fieldP fl_231_0 0 rfl rfl) rfl ?_
      refine vc_guardT 61 rfl rfl ?_
      refine vc_y (y_load1 0 rfl one_136 rfl (Pts.vis rfl)) rfl ?_
      refine vc_guardT 61 rfl rfl ?_
      refine vc_y (y_len Tryz.underlying136 rfl ekr) rfl ?_
      refine vc_guardT 61 rfl rfl ?_
      iterate 3 refine vp ?_
      refine vc_nil ?_
      refine vc_then ?_
      first | refine vc_condP rfl (fun c59 => ?_) (fun c59 => ?_) | refine vc_condN rfl (fun c59 => ?_) (fun c59 => ?_) | refine vc_cond rfl (fun c59 => ?_) (fun c59 => ?_)
      ·skip
       omega
      ·skip
       refine vc_skip ?_
       refine vc_inNormal ?_
       refine vc_then ?_
       refine vc_seq ?_
       refine vc_region ?_
       iterate 3 refine vp ?_
       refine vc_nil ?_
       refine vc_then ?_
       refine vc_ret ?_
       exact vc_end2 Tryz.results129 rfl rfl _ (ent_pick [1, 1, 1, 1] rfl) ⟨hf1, hs1, ln1, by simp [getN, hf], rfl⟩
     ·skip
      refine vc_guardF 61 rfl rfl rfl rfl ?_
      refine vc_guardF 61 rfl rfl rfl rfl ?_
      refine vc_guardF 61 rfl rfl rfl rfl ?_
      refine vc_guardF 61 rfl rfl rfl rfl ?_
      refine vp ?_
      refine vp ?_
      refine vc_nil ?_
      refine vc_then ?_
      refine vc_condF rfl ?_
      refine vc_skip ?_
      refine vc_inNormal ?_
      refine vc_then ?_
      refine vc_seq ?_
      refine vc_region ?_
      iterate 3 refine vp ?_
      refine vc_nil ?_
      refine vc_then ?_
      refine vc_ret ?_
      exact vc_end2 Tryz.results129 rfl rfl _ (ent_pick [1, 1, 1, 1] rfl) ⟨hf1, hs1, ln1, by simp [getN, hf], rfl⟩
   exact vo_nil
  exact vo_nil
end Go.Proofs.YtcpbibdbahfgaaaGreat
