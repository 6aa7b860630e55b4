/-
 The walk of a join.
-/
import Derived.Test.YtcpbibdbahfgaaaGreatTree6
set_option linter.unusedVariables false
set_option linter.unusedSimpArgs false
set_option autoImplicit false
set_option maxHeartbeats 4000000
namespace Go.Proofs.YtcpbibdbahfgaaaGreat
open Go.Eng
namespace FTree7
theorem fl_231_2 : Fld Tryz.prog 231 2 2 := ⟨_, _, 0, Tryz.underlying231, rfl, rfl, by kernel_rfl⟩
theorem one_72 : TyOne Tryz.prog 72 := ⟨⟨_, Tryz.underlying72, rfl⟩, by kernel_rfl⟩
theorem sl_72 : TySl Tryz.prog 72 3 1 := ⟨Tryz.underlying72, by kernel_rfl⟩
theorem one_3 : TyOne Tryz.prog 3 := ⟨⟨_, Tryz.underlying3, rfl⟩, by kernel_rfl⟩
theorem fl_204_0 : Fld Tryz.prog 204 0 0 := ⟨_, _, 0, Tryz.underlying204, rfl, rfl, by kernel_rfl⟩
theorem one_202 : TyOne Tryz.prog 202 := ⟨⟨_, Tryz.underlying202, rfl⟩, by kernel_rfl⟩
theorem sl_202 : TySl Tryz.prog 202 231 3 := ⟨Tryz.underlying202, by kernel_rfl⟩
theorem ag_231 : TyAgg Tryz.prog 231 3 := ⟨⟨_, Tryz.underlying231, rfl⟩, by kernel_rfl⟩
theorem ze_231 : (Tryz.prog.info? 231).map (·.zero) = some (some (.agg #[.slice none 0 0, .slice none 0 0, .slice none 0 0])) := by kernel_rfl
theorem sz_231 : (Tryz.prog.info? 231).map (·.size) = some 3 := by kernel_rfl
theorem ca_163 : Callable Tryz.prog 163 := ⟨_, _, Tryz.func163, rfl, rfl⟩
theorem fl_231_0 : Fld Tryz.prog 231 0 0 := ⟨_, _, 0, Tryz.underlying231, rfl, rfl, by kernel_rfl⟩
theorem one_136 : TyOne Tryz.prog 136 := ⟨⟨_, Tryz.underlying136, rfl⟩, by kernel_rfl⟩
theorem sl_136 : TySl Tryz.prog 136 9 1 := ⟨Tryz.underlying136, by kernel_rfl⟩
theorem one_9 : TyOne Tryz.prog 9 := ⟨⟨_, Tryz.underlying9, rfl⟩, by kernel_rfl⟩
theorem sz_9 : (Tryz.prog.info? 9).map (·.size) = some 1 := by kernel_rfl
theorem ze_9 : (Tryz.prog.info? 9).map (·.zero) = some (some (.string ⟨#[]⟩)) := by kernel_rfl
theorem bs_136_1 (v0 : Value) (h0 : v0.cells = #[v0]) (w : World) : (Instr.buildSlice 136 1 #[(0, v0)]).run Tryz.prog w = .ok (.slice (some ⟨w.heap.size, 0, none⟩) 1 1) { w with heap := w.heap.push (.cells #[v0] 9 (0, 0)) } :=
 Go.Eng.run_buildSlice Tryz.underlying136 sz_9 ze_9 (by decide) (by rw [show Array.range (1 * 1) = #[0] from by decide]; simp [Instr.fill, cells_agg, h0]) w
theorem el_136_eStr : TyEl Tryz.prog 136 eStr 16 := ⟨Tryz.underlying136, .string ⟨#[]⟩, by kernel_rfl, rfl⟩
theorem sz_136 : (Tryz.prog.info? 136).map (·.size) = some 1 := by kernel_rfl
theorem fl_231_1 : Fld Tryz.prog 231 1 1 := ⟨_, _, 0, Tryz.underlying231, rfl, rfl, by kernel_rfl⟩
theorem el_72_eInt : TyEl Tryz.prog 72 eInt 8 := ⟨Tryz.underlying72, .int .i64 0, by kernel_rfl, rfl⟩
theorem el_72_eNat : TyEl Tryz.prog 72 eNat 8 := ⟨Tryz.underlying72, .int .i64 0, by kernel_rfl, rfl⟩
theorem sz_72 : (Tryz.prog.info? 72).map (·.size) = some 1 := by kernel_rfl
theorem ca_190 : Callable Tryz.prog 190 := ⟨_, _, Tryz.func190, rfl, rfl⟩
theorem ca_191 : Callable Tryz.prog 191 := ⟨_, _, Tryz.func191, rfl, rfl⟩
theorem ca_162 : Callable Tryz.prog 162 := ⟨_, _, Tryz.func162, rfl, rfl⟩
end FTree7
open FTree7
theorem getX {hs : List Nd3} {l : List Nd} (hlen : hs.length = l.length) {i : Nat} {d : Nd} (h : l[i]? = some d) : ∃ x, hs[i]? = some x := getSome hlen h
theorem join_spec {b : Nat} {l : List Nd} {fr : List Nat} {r : Option Nat} {m : Int} {hl hf : SH} {hs : List Nd3} (hlen : hs.length = l.length) {x w p q : Nat} {d dp dq : Nd} {s : ByteArray} (hC : MendC l x w d dp dq p q s) (hfr : fr.length ≤ 1000000) :
  Does Tryz.prog 220 [.pointer (some ⟨b, 0, none⟩), .pointer (some (eAd hl 3 x 0)), .int .i64 (w : Int)] (TO b ⟨l, fr, r, m⟩ hl hf hs) (fun v l2 => ∃ hf' hs', hs'.length = (((l.set p (joinA dp dq s)).set x (joinX d w)).set q nd0).length ∧ (∀ j, j ≠ x → j ≠ p → j ≠ q → hs'[j]? = hs[j]?) ∧ v = .tuple #[] ∧ l2 = TO b ⟨((l.set p (joinA dp dq s)).set x (joinX d w)).set q nd0, fr ++ [q], r, m⟩ hl hf' hs') := by
 refine spec_of Tryz.func220 rfl Tryz.ntmps220 Tryz.results220 _ (by simp) fun ι F => ?_
 obtain ⟨hd, hg, ha, hb, hdp, hdq, hgp, hgq, hw, hs0, hxp, hxq, hpq⟩ := hC
 have hwk := getLt hb
 obtain ⟨hx, hhx⟩ := getX hlen hd
 obtain ⟨hp, hhp⟩ := getX hlen hdp
 obtain ⟨hq, hhq⟩ := getX hlen hdq
 obtain ⟨hgr, hgk, hgn, hgc⟩ := hg
 obtain ⟨pgr, pgk, pgn, pgc⟩ := hgp
 obtain ⟨qgr, qgk, qgn, qgc⟩ := hgq
 refine vc_openN 3 rfl hhp hdp ?_
 refine vc_see 0 rfl (Sl.vis.imp fun w r => (⟨r.len, r.cap⟩ : hp.k.len = dp.keys.length ∧ dp.keys.length ≤ hp.k.cap)) (fun ekp => ?_)
 refine vc_see 1 rfl (Sl.vis.imp fun w r => (⟨r.len, r.cap⟩ : hp.n.len = dp.nums.length ∧ dp.nums.length ≤ hp.n.cap)) (fun enp => ?_)
 refine vc_see 2 rfl (Sl.vis.imp fun w r => (⟨r.len, r.cap⟩ : hp.c.len = dp.kids.length ∧ dp.kids.length ≤ hp.c.cap)) (fun ecp => ?_)
 have hxno : x ∉ [p] := by simp; omega
 have hqno : q ∉ [p] := by simp; omega
 refine vc_see 3 rfl ((NodesX.visK hxno hhx hd).imp fun w r => (⟨r.len, r.cap⟩ : hx.k.len = d.keys.length ∧ d.keys.length ≤ hx.k.cap)) (fun ekx => ?_)
 refine vc_see 3 rfl ((NodesX.visN hxno hhx hd).imp fun w r => (⟨r.len, r.cap⟩ : hx.n.len = d.nums.length ∧ d.nums.length ≤ hx.n.cap)) (fun enx => ?_)
 refine vc_see 3 rfl ((NodesX.visC hxno hhx hd).imp fun w r => (⟨r.len, r.cap⟩ : hx.c.len = d.kids.length ∧ d.kids.length ≤ hx.c.cap)) (fun ecx => ?_)
 refine vc_see 3 rfl ((NodesX.visK hqno hhq hdq).imp fun w r => (⟨r.len, r.cap⟩ : hq.k.len = dq.keys.length ∧ dq.keys.length ≤ hq.k.cap)) (fun ekq => ?_)
 refine vc_see 3 rfl ((NodesX.visN hqno hhq hdq).imp fun w r => (⟨r.len, r.cap⟩ : hq.n.len = dq.nums.length ∧ dq.nums.length ≤ hq.n.cap)) (fun enq => ?_)
 refine vc_see 3 rfl ((NodesX.visC hqno hhq hdq).imp fun w r => (⟨r.len, r.cap⟩ : hq.c.len = dq.kids.length ∧ dq.kids.length ≤ hq.c.cap)) (fun ecq => ?_)
 refine vc_seq ?_
 refine vc_region ?_
 refine vp ?_
 refine vp ?_
 refine vc_y (y_fieldE fl_231_2 2 rfl rfl) rfl ?_
 refine vc_y (y_load1 5 rfl one_72 rfl (Rd.vis1 (Sl.vis) hhx rfl)) rfl ?_
 refine vp ?_
 refine vc_y (y_elem 3 rfl (NodesX.visC hxno hhx hd) w rfl (getLt hb) sl_72 rfl rfl) rfl ?_
 refine vc_y (y_load1 3 rfl one_3 rfl (Rd.vis1 (NodesX.visC hxno hhx hd) hb rfl)) rfl ?_
 refine vp ?_
 refine vc_nil ?_
 refine vc_then ?_
 refine vc_seq ?_
 refine vc_draw (by kernel_rfl) _ none [4, 4, 3] rfl ?_
 refine tpp 0 ?_
 refine tpp 1 ?_
 refine tp 2 rfl (by exact y_fieldP fl_204_0 0 rfl rfl) ?_
 refine tk 3 rfl (by exact y_load1 0 rfl one_202 rfl (Pts.vis rfl)) ?_
 refine tpp 4 ?_
 refine tpp 5 ?_
 refine tp 6 rfl (by exact y_fieldE fl_231_2 2 rfl rfl) ?_
 refine tk 7 rfl (by exact y_load1 1 rfl one_72 rfl (Rd.vis1 (Sl.vis) hhx rfl)) ?_
 refine tpp 8 ?_
 refine tp 9 rfl (by exact y_arith ((w - 1 : Nat) : Int) rfl (wrapNsub (by omega))) ?_
 refine tk 10 rfl (by exact y_elem 2 rfl (NodesX.visC hxno hhx hd) (w - 1) rfl (getLt ha) sl_72 rfl rfl) ?_
 refine tk 11 rfl (by exact y_load1 2 rfl one_3 rfl (Rd.vis1 (NodesX.visC hxno hhx hd) ha rfl)) ?_
 refine tk 12 rfl (by exact y_elem 1 rfl (Sl.vis) p rfl (getLt hhp) sl_202 rfl rfl) ?_
 refine tpp 13 ?_
 refine tpp 14 ?_
 refine tp 15 rfl (by exact y_fieldP fl_204_0 0 rfl rfl) ?_
 refine tk 16 rfl (by exact y_load1 0 rfl one_202 rfl (Pts.vis rfl)) ?_
 refine tpp 17 ?_
 refine tk 18 rfl (by exact y_elem 1 rfl (Sl.vis) q rfl (getLt hhq) sl_202 rfl rfl) ?_
 refine tk 19 rfl (by exact y_loadA 1 rfl (cs := [_, _, _]) ag_231 rfl (Rd.visA (Sl.vis) hhq rfl)) ?_
 refine va_ready [20] (by kernel_rfl) rfl ?_
 refine vo_cons rfl (fun hC0 => ?_) ?_
 ·skip
  refine vc_alloc [.slice none 0 0, .slice none 0 0, .slice none 0 0] ze_231 rfl rfl (fun b8 => ?_)
  refine vc_nil ?_
  refine vc_then ?_
  refine va_kept hC0 [5, 5, 4] rfl ?_
  clear hC0
  refine tpp 21 ?_
  refine va_ready [22] (by kernel_rfl) rfl ?_
  refine vo_cons rfl (fun hC0 => ?_) ?_
  ·skip
   refine vc_storeP 0 rfl [_, _, _] [_, _, _] rfl rfl rfl sz_231 rfl rfl rfl ?_
   refine vc_nil ?_
   refine vc_then ?_
   refine va_kept hC0 [5, 5, 4] rfl ?_
   clear hC0
   refine va_done (by kernel_rfl) ?_
   refine vc_then ?_
   refine vc_seq ?_
   refine vc_cut (α := SH × List Nd3) (fun xq_ => match xq_ with | (g, hs1) => [(0, .pointer (some ⟨b, 0, none⟩)), (1, .pointer (some (eAd hl 3 x 0))), (2, .int .i64 (w : Int)), (6, .int .i64 (q : Int)), (7, .pointer (some (eAd hl 3 p 0))), (8, .pointer (some ⟨b8, 0, none⟩))]) (fun xq_ => match xq_ with | (g, hs1) => [Pts b8 [hq.k.v, hq.n.v, hq.c.v] 231, Sl eStr g (if dp.kids = [] then dp.keys else dp.keys ++ [s]), Sl eInt hp.n dp.nums, Sl eNat hp.c dp.kids, NodesX [p] hs l, Pts b [hl.v, hf.v, .int .i64 (rootV r), .int .i64 m] 204, Sl eNode hl hs1, Sl eNat hf fr]) (fun xq_ => match xq_ with | (g, hs1) => hs1.length = l.length ∧ hs1[p]? = some ⟨g, hp.n, hp.c⟩ ∧ ∀ j, j ≠ p → hs1[j]? = hs[j]?) ?_ ?_
   ·skip
    refine vc_seq ?_
    refine vc_region ?_
    refine vp ?_
    refine vc_callv ca_163 (us := []) (vs := []) rfl [_] rfl [6] rfl (leaf_specD (h := hp) (d := dp) (Rd.vis1 Sl.vis hhp rfl) ecp.1) rfl ?_
    rintro _ _ ⟨rfl, rfl⟩
    refine vp ?_
    refine vc_nil ?_
    refine vc_then ?_
    first | refine vc_condP rfl (fun c38 => ?_) (fun c38 => ?_) | refine vc_condN rfl (fun c38 => ?_) (fun c38 => ?_) | refine vc_cond rfl (fun c38 => ?_) (fun c38 => ?_)
    ·skip
     have hpk : dp.kids ≠ [] := by simpa using c38
     refine vc_draw (by kernel_rfl) _ (some 17) [0, 4] rfl ?_
     refine tpp 0 ?_
     refine tpp 1 ?_
     refine tpp 2 ?_
     refine tp 3 rfl (by exact y_fieldE fl_231_0 0 rfl rfl) ?_
     refine tk 4 rfl (by exact y_load1 0 rfl one_136 rfl (Rd.vis1 (Sl.vis) hhp rfl)) ?_
     refine tpp 5 ?_
     refine tpp 6 ?_
     refine tp 7 rfl (by exact y_fieldE fl_231_0 0 rfl rfl) ?_
     refine tk 8 rfl (by exact y_load1 0 rfl one_136 rfl (Rd.vis1 (Sl.vis) hhx rfl)) ?_
     refine tpp 9 ?_
     refine tp 10 rfl (by exact y_arith ((w - 1 : Nat) : Int) rfl (wrapNsub (by omega))) ?_
     refine tk 11 rfl (by exact y_elem 1 rfl (NodesX.visK hxno hhx hd) (w - 1) rfl (getLt hs0) sl_136 rfl rfl) ?_
     refine tk 12 rfl (by exact y_load1 1 rfl one_9 rfl (Rd.vis1 (NodesX.visK hxno hhx hd) hs0 rfl)) ?_
     refine va_ready [13] (by kernel_rfl) rfl ?_
     refine vo_cons rfl (fun hC0 => ?_) ?_
     ·skip
      refine vc_buildSlice (E := eStr) [(0, _)] [s] rfl rfl (bs_136_1 _ rfl) rfl (fun h52 => ?_)
      refine vc_nil ?_
      refine vc_then ?_
      refine va_kept hC0 [1, 5] rfl ?_
      clear hC0
      refine va_ready [14] (by kernel_rfl) rfl ?_
      refine vo_cons rfl (fun hC0 => ?_) ?_
      ·skip
       refine vc_append 3 rfl 0 rfl (Sl.vis) el_136_eStr Tryz.underlying136 rfl rfl (by simp; omega) (by simp; omega) rfl (fun h53 => ?_)
       refine vc_nil ?_
       refine vc_then ?_
       refine va_kept hC0 [1, 5] rfl ?_
       clear hC0
       refine tpp 15 ?_
       refine tp 16 rfl (by exact y_fieldE fl_231_0 0 rfl rfl) ?_
       refine va_ready [17] (by kernel_rfl) rfl ?_
       refine vo_cons rfl (fun hC0 => ?_) ?_
       ·skip
        refine vc_storeE 1 rfl [_] ⟨h53, hp.n, hp.c⟩ rfl rfl rfl sz_136 rfl hhp (Nat.le_of_ble_eq_true rfl) rfl ?_
        refine vc_nil ?_
        refine vc_then ?_
        refine va_gone hC0 (by kernel_rfl) ?_
        clear hC0
        refine va_done (by kernel_rfl) ?_
        refine vc_then ?_
        exact vc_met (h53, hs.set p ⟨h53, hp.n, hp.c⟩) ⟨by rw [List.length_set]; exact hlen, List.getElem?_set_self (getLt hhp), fun j hj => List.getElem?_set_ne (Ne.symm hj)⟩ ⟨rfl, rfl, rfl, rfl, rfl, rfl, trivial⟩ (by rw [if_neg hpk]; exact ent_pick [2, 2, 2, 2, 2, 2, 1, 1] rfl)
       exact vo_nil
      exact vo_nil
     exact vo_nil
    ·skip
     have hpk : dp.kids = [] := by simpa using c38
     refine vc_skip ?_
     refine vc_then ?_
     exact vc_met (hp.k, hs) ⟨hlen, hhp, fun j hj => rfl⟩ ⟨rfl, rfl, rfl, rfl, rfl, rfl, trivial⟩ (by rw [if_pos hpk]; exact ent_pick [1, 1, 1, 1, 1, 1, 0, 0] rfl)
   rintro ⟨g, hs1⟩ ⟨ln1, hg1, ho1⟩
   show VC _ _ _ _ [(0, .pointer (some ⟨b, 0, none⟩)), (1, .pointer (some (eAd hl 3 x 0))), (2, .int .i64 (w : Int)), (6, .int .i64 (q : Int)), (7, .pointer (some (eAd hl 3 p 0))), (8, .pointer (some ⟨b8, 0, none⟩))] ([Pts b8 [hq.k.v, hq.n.v, hq.c.v] 231, Sl eStr g (if dp.kids = [] then dp.keys else dp.keys ++ [s]), Sl eInt hp.n dp.nums, Sl eNat hp.c dp.kids, NodesX [p] hs l, Pts b [hl.v, hf.v, .int .i64 (rootV r), .int .i64 m] 204, Sl eNode hl hs1, Sl eNat hf fr])
   have hka : ((if dp.kids = [] then dp.keys else dp.keys ++ [s])).length ≤ 1001 := by split <;> (try simp) <;> omega
   refine vc_seq ?_
   refine vc_draw (by kernel_rfl) _ (some 26) [0, 5] rfl ?_
   refine tpp 0 ?_
   refine tpp 1 ?_
   refine tpp 2 ?_
   refine tpp 3 ?_
   refine tpp 4 ?_
   refine tp 5 rfl (by exact y_fieldE fl_231_0 0 rfl rfl) ?_
   refine tk 6 rfl (by exact y_load1 1 rfl one_136 rfl (Rd.vis1 (Sl.vis) hg1 rfl)) ?_
   refine tp 7 rfl (by exact y_fieldP fl_231_0 0 rfl rfl) ?_
   refine tk 8 rfl (by exact y_load1 0 rfl one_136 rfl (Pts.vis rfl)) ?_
   refine tpp 10 ?_
   refine tpp 11 ?_
   refine tp 12 rfl (by exact y_fieldE fl_231_1 1 rfl rfl) ?_
   refine tk 13 rfl (by exact y_load1 1 rfl one_72 rfl (Rd.vis1 (Sl.vis) hg1 rfl)) ?_
   refine tp 14 rfl (by exact y_fieldP fl_231_1 1 rfl rfl) ?_
   refine tk 15 rfl (by exact y_load1 0 rfl one_72 rfl (Pts.vis rfl)) ?_
   refine tpp 17 ?_
   refine tpp 18 ?_
   refine tp 19 rfl (by exact y_fieldE fl_231_2 2 rfl rfl) ?_
   refine tk 20 rfl (by exact y_load1 1 rfl one_72 rfl (Rd.vis1 (Sl.vis) hg1 rfl)) ?_
   refine tp 21 rfl (by exact y_fieldP fl_231_2 2 rfl rfl) ?_
   refine tk 22 rfl (by exact y_load1 0 rfl one_72 rfl (Pts.vis rfl)) ?_
   refine va_ready [9] (by kernel_rfl) rfl ?_
   refine vo_cons rfl (fun hC0 => ?_) ?_
   ·skip
    refine vc_append 1 rfl 4 rfl (NodesX.visK hqno hhq hdq) el_136_eStr Tryz.underlying136 rfl rfl (by omega) (by omega) rfl (fun h65 => ?_)
    refine vc_nil ?_
    refine vc_then ?_
    refine va_kept hC0 [0, 5] rfl ?_
    clear hC0
    refine va_ready [16] (by kernel_rfl) rfl ?_
    refine vo_cons rfl (fun hC0 => ?_) ?_
    ·skip
     refine vc_append 2 rfl 4 rfl (NodesX.visN hqno hhq hdq) el_72_eInt Tryz.underlying72 rfl rfl (by omega) (by omega) rfl (fun h72 => ?_)
     refine vc_nil ?_
     refine vc_then ?_
     refine va_kept hC0 [0, 5] rfl ?_
     clear hC0
     refine va_ready [23] (by kernel_rfl) rfl ?_
     refine vo_cons rfl (fun hC0 => ?_) ?_
     ·skip
      refine vc_append 3 rfl 4 rfl (NodesX.visC hqno hhq hdq) el_72_eNat Tryz.underlying72 rfl rfl (by omega) (by omega) rfl (fun h79 => ?_)
      refine vc_nil ?_
      refine vc_then ?_
      refine va_kept hC0 [0, 5] rfl ?_
      clear hC0
      refine tpp 24 ?_
      refine tp 25 rfl (by exact y_fieldE fl_231_0 0 rfl rfl) ?_
      refine va_ready [26] (by kernel_rfl) rfl ?_
      refine vo_cons rfl (fun hC0 => ?_) ?_
      ·skip
       refine vc_storeE 6 rfl [_] ⟨h65, hp.n, hp.c⟩ rfl rfl rfl sz_136 rfl hg1 (Nat.le_of_ble_eq_true rfl) rfl ?_
       refine vc_nil ?_
       refine vc_then ?_
       refine va_gone hC0 (by kernel_rfl) ?_
       clear hC0
       refine va_ready [27] (by kernel_rfl) rfl ?_
       refine vo_cons rfl (fun hC0 => ?_) ?_
       ·skip
        refine vp ?_
        refine vc_nil ?_
        refine vc_then ?_
        refine va_gone hC0 (by kernel_rfl) ?_
        clear hC0
        refine va_ready [28] (by kernel_rfl) rfl ?_
        refine vo_cons rfl (fun hC0 => ?_) ?_
        ·skip
         refine vc_y (y_fieldE fl_231_1 1 rfl rfl) rfl ?_
         refine vc_nil ?_
         refine vc_then ?_
         refine va_gone hC0 (by kernel_rfl) ?_
         clear hC0
         refine va_ready [29] (by kernel_rfl) rfl ?_
         refine vo_cons rfl (fun hC0 => ?_) ?_
         ·skip
          refine vc_storeE 6 rfl [_] ⟨h65, h72, hp.c⟩ rfl rfl rfl sz_72 rfl (List.getElem?_set_self (getLt hg1)) (Nat.le_of_ble_eq_true rfl) rfl ?_
          refine vc_nil ?_
          refine vc_then ?_
          refine va_gone hC0 (by kernel_rfl) ?_
          clear hC0
          refine va_ready [30] (by kernel_rfl) rfl ?_
          refine vo_cons rfl (fun hC0 => ?_) ?_
          ·skip
           refine vp ?_
           refine vc_nil ?_
           refine vc_then ?_
           refine va_gone hC0 (by kernel_rfl) ?_
           clear hC0
           refine va_ready [31] (by kernel_rfl) rfl ?_
           refine vo_cons rfl (fun hC0 => ?_) ?_
           ·skip
            refine vc_y (y_fieldE fl_231_2 2 rfl rfl) rfl ?_
            refine vc_nil ?_
            refine vc_then ?_
            refine va_gone hC0 (by kernel_rfl) ?_
            clear hC0
            refine va_ready [32] (by kernel_rfl) rfl ?_
            refine vo_cons rfl (fun hC0 => ?_) ?_
            ·skip
             refine vc_storeE 6 rfl [_] ⟨h65, h72, h79⟩ rfl rfl rfl sz_72 rfl (List.getElem?_set_self (by rw [List.length_set]; exact getLt hg1)) (Nat.le_of_ble_eq_true rfl) rfl ?_
             refine vc_nil ?_
             refine vc_then ?_
             refine va_gone hC0 (by kernel_rfl) ?_
             clear hC0
             refine va_done (by kernel_rfl) ?_
             refine vc_then ?_
             refine vc_seq ?_
             obtain ⟨hs2, ehs2⟩ : ∃ z, z = ((hs1.set p ⟨h65, hp.n, hp.c⟩).set p ⟨h65, h72, hp.c⟩).set p ⟨h65, h72, h79⟩ := ⟨_, rfl⟩
             rw [← ehs2]
             have ln2 : hs2.length = l.length := by rw [ehs2]; simp [ln1]
             have hp2 : hs2[p]? = some ⟨h65, h72, h79⟩ := by rw [ehs2]; exact List.getElem?_set_self (by simp; exact getLt hg1)
             have ho2 : ∀ j, j ≠ p → hs2[j]? = hs[j]? := fun j hj => by rw [ehs2, List.getElem?_set_ne (Ne.symm hj), List.getElem?_set_ne (Ne.symm hj), List.getElem?_set_ne (Ne.symm hj)]; exact ho1 j hj
             have hhx2 : hs2[x]? = some hx := by rw [ho2 x hxp]; exact hhx
             refine vc_openX 4 rfl (ho := [p]) (by simp; omega) hhx hd ?_
             refine vc_draw (by kernel_rfl) _ (some 20) [9] rfl ?_
             refine tpp 0 ?_
             refine tpp 1 ?_
             refine tpp 2 ?_
             refine tpp 3 ?_
             refine tp 4 rfl (by exact y_fieldE fl_231_0 0 rfl rfl) ?_
             refine tk 5 rfl (by exact y_load1 0 rfl one_136 rfl (Rd.vis1 (Sl.vis) hhx2 rfl)) ?_
             refine tpp 6 ?_
             refine tp 7 rfl (by exact y_arith ((w - 1 : Nat) : Int) rfl (wrapNsub (by omega))) ?_
             refine tpp 8 ?_
             refine tpp 10 ?_
             refine tpp 11 ?_
             refine tp 12 rfl (by exact y_fieldE fl_231_2 2 rfl rfl) ?_
             refine tk 13 rfl (by exact y_load1 0 rfl one_72 rfl (Rd.vis1 (Sl.vis) hhx2 rfl)) ?_
             refine tpp 14 ?_
             refine tpp 15 ?_
             refine tp 16 rfl (by exact y_arith ((w + 1 : Nat) : Int) rfl (wrapNadd (by have := getLt hb; omega))) ?_
             refine va_ready [9] (by kernel_rfl) rfl ?_
             refine vo_cons rfl (fun hC0 => ?_) ?_
             ·skip
              refine vc_callv ca_190 (us := []) (vs := []) rfl [_, _, _] rfl [0] rfl (delS_spec (i := w - 1) (j := w) (by omega) (by have := getLt hs0; omega) (by omega)) rfl ?_
              rintro _ _ ⟨h95, rfl, rfl⟩
              refine vc_nil ?_
              refine vc_then ?_
              refine va_kept hC0 [9] rfl ?_
              clear hC0
              refine va_ready [17] (by kernel_rfl) rfl ?_
              refine vo_cons rfl (fun hC0 => ?_) ?_
              ·skip
               refine vc_callv ca_191 (us := []) (vs := []) rfl [_, _, _] rfl [2] rfl (delN_spec (i := w) (j := w + 1) (by omega) (by have := getLt hb; omega) (by omega)) rfl ?_
               rintro _ _ ⟨h103, rfl, rfl⟩
               refine vc_nil ?_
               refine vc_then ?_
               refine va_kept hC0 [9] rfl ?_
               clear hC0
               refine tpp 18 ?_
               refine tp 19 rfl (by exact y_fieldE fl_231_0 0 rfl rfl) ?_
               refine va_ready [20] (by kernel_rfl) rfl ?_
               refine vo_cons rfl (fun hC0 => ?_) ?_
               ·skip
                refine vc_storeE 9 rfl [_] ⟨h95, hx.n, hx.c⟩ rfl rfl rfl sz_136 rfl hhx2 (Nat.le_of_ble_eq_true rfl) rfl ?_
                refine vc_nil ?_
                refine vc_then ?_
                refine va_gone hC0 (by kernel_rfl) ?_
                clear hC0
                refine va_ready [21] (by kernel_rfl) rfl ?_
                refine vo_cons rfl (fun hC0 => ?_) ?_
                ·skip
                 refine vp ?_
                 refine vc_nil ?_
                 refine vc_then ?_
                 refine va_gone hC0 (by kernel_rfl) ?_
                 clear hC0
                 refine va_ready [22] (by kernel_rfl) rfl ?_
                 refine vo_cons rfl (fun hC0 => ?_) ?_
                 ·skip
                  refine vc_y (y_fieldE fl_231_2 2 rfl rfl) rfl ?_
                  refine vc_nil ?_
                  refine vc_then ?_
                  refine va_gone hC0 (by kernel_rfl) ?_
                  clear hC0
                  refine va_ready [23] (by kernel_rfl) rfl ?_
                  refine vo_cons rfl (fun hC0 => ?_) ?_
                  ·skip
                   refine vc_storeE 9 rfl [_] ⟨h95, hx.n, h103⟩ rfl rfl rfl sz_72 rfl (List.getElem?_set_self (getLt hhx2)) (Nat.le_of_ble_eq_true rfl) rfl ?_
                   refine vc_nil ?_
                   refine vc_then ?_
                   refine va_gone hC0 (by kernel_rfl) ?_
                   clear hC0
                   refine va_done (by kernel_rfl) ?_
                   refine vc_then ?_
                   refine vc_region ?_
                   have hpx : p ≠ x := Ne.symm hxp
                   have k1 : ((hs2.set x ⟨h95, hx.n, hx.c⟩).set x ⟨h95, hx.n, h103⟩)[x]? = some ⟨h95, hx.n, h103⟩ := List.getElem?_set_self (by rw [List.length_set]; exact getLt hhx2)
                   have k2 : ((hs2.set x ⟨h95, hx.n, hx.c⟩).set x ⟨h95, hx.n, h103⟩)[p]? = some ⟨h65, h72, h79⟩ := by rw [List.getElem?_set_ne hxp, List.getElem?_set_ne hxp]; exact hp2
                   have k3 : ∀ j, j ≠ x → j ≠ p → ((hs2.set x ⟨h95, hx.n, hx.c⟩).set x ⟨h95, hx.n, h103⟩)[j]? = hs[j]? := fun j h1 h2 => by rw [List.getElem?_set_ne (Ne.symm h1), List.getElem?_set_ne (Ne.symm h1)]; exact ho2 j h2
                   have k4 : ((l.set p (joinA dp dq s)).set x (joinX d w))[x]? = some (joinX d w) := List.getElem?_set_self (by rw [List.length_set]; exact getLt hd)
                   have k5 : ((l.set p (joinA dp dq s)).set x (joinX d w))[p]? = some (joinA dp dq s) := by rw [List.getElem?_set_ne hxp]; exact List.getElem?_set_self (getLt hdp)
                   have k6 : ∀ j, j ≠ x → j ≠ p → ((l.set p (joinA dp dq s)).set x (joinX d w))[j]? = l[j]? := fun j h1 h2 => by rw [List.getElem?_set_ne (Ne.symm h1), List.getElem?_set_ne (Ne.symm h2)]
                   have k7 : ((hs2.set x ⟨h95, hx.n, hx.c⟩).set x ⟨h95, hx.n, h103⟩).length = ((l.set p (joinA dp dq s)).set x (joinX d w)).length := by simp [ln2]
                   obtain ⟨hs3, ehs3⟩ : ∃ z, z = ((hs2.set x ⟨h95, hx.n, hx.c⟩).set x ⟨h95, hx.n, h103⟩) := ⟨_, rfl⟩
                   obtain ⟨l3, el3⟩ : ∃ z, z = ((l.set p (joinA dp dq s)).set x (joinX d w)) := ⟨_, rfl⟩
                   rw [← ehs3] at k1 k2 k3 k7 ⊢
                   rw [← el3] at k4 k5 k6 k7 ⊢
                   refine vc_ent (l' := TO b ⟨l3, fr, r, m⟩ hl hf hs3) (ent_at [1, 1, 0, 0, 1, 1, 1, 1, 1, 1] rfl ?_) ?_
                   ·refine (ent_closeX (ho := [p]) (hs' := hs3) (ds' := l3) ⟨h95, hx.n, h103⟩ (joinX d w) hxno k1 k4 (by rw [el3]; simp) (fun j h1 h2 => k3 j h1 (by simpa using h2)) (fun j h1 h2 => k6 j h1 (by simpa using h2))).trans ?_
                    refine (ent_pick [1, 1, 1, 0, 0, 0, 0] rfl).trans ?_
                    refine (ent_closeN (hs' := hs3) (ds' := l3) ⟨h65, h72, h79⟩ (joinA dp dq s) k2 k5 rfl (fun j _ => rfl) (fun j _ => rfl)).trans ?_
                    exact ent_pick [1, 1, 1, 0] rfl
                   refine vp ?_
                   refine vp ?_
                   refine vc_callv ca_162 (us := []) (vs := []) rfl [_, _] rfl [0, 0, 0, 0] rfl (drop_spec k7 (i := q) (by rw [el3]; simp; exact getLt hdq) hfr) rfl ?_
                   rintro _ _ ⟨hf', hs', lnf, hof, rfl, rfl⟩
                   refine vc_nil ?_
                   exact vc_end0n Tryz.results220 _ (ent_pick [0, 0, 0, 0] rfl) ⟨hf', hs', by rw [lnf, List.length_set], fun j h1 h2 h3 => by rw [hof j h3]; exact k3 j h1 h2, rfl, rfl⟩
                  exact vo_nil
                 exact vo_nil
                exact vo_nil
               exact vo_nil
              exact vo_nil
             exact vo_nil
            exact vo_nil
           exact vo_nil
          exact vo_nil
         exact vo_nil
        exact vo_nil
       exact vo_nil
      exact vo_nil
     exact vo_nil
    exact vo_nil
   exact vo_nil
  exact vo_nil
 exact vo_nil
end Go.Proofs.YtcpbibdbahfgaaaGreat
