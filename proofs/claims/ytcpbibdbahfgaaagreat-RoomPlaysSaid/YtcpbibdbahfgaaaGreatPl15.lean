/-
 Layer 11: the example; a call on both rooms.
-/
import Derived.Test.YtcpbibdbahfgaaaGreatPl11
import Derived.Test.YtcpbibdbahfgaaaGreatPl14
set_option linter.unusedVariables false
set_option linter.unusedSimpArgs false
set_option autoImplicit false
set_option maxHeartbeats 4000000
namespace Go.Proofs.YtcpbibdbahfgaaaGreat
open Go.Eng
namespace FLaw11a
theorem sl_35 : TySl Tryz.prog 35 97 5 := ⟨Tryz.underlying35, by kernel_rfl⟩
theorem fl_97_0 : Fld Tryz.prog 97 0 0 := ⟨_, _, 0, Tryz.underlying97, rfl, rfl, by kernel_rfl⟩
theorem one_9 : TyOne Tryz.prog 9 := ⟨⟨_, Tryz.underlying9, rfl⟩, by kernel_rfl⟩
theorem fl_97_2 : Fld Tryz.prog 97 2 2 := ⟨_, _, 2, Tryz.underlying97, rfl, rfl, by kernel_rfl⟩
theorem fl_45_1 : Fld Tryz.prog 45 1 1 := ⟨_, _, 0, Tryz.underlying45, rfl, rfl, by kernel_rfl⟩
theorem fl_37_0 : Fld Tryz.prog 37 0 0 := ⟨_, _, 0, Tryz.underlying37, rfl, rfl, by kernel_rfl⟩
theorem one_3 : TyOne Tryz.prog 3 := ⟨⟨_, Tryz.underlying3, rfl⟩, by kernel_rfl⟩
theorem one_34 : TyOne Tryz.prog 34 := ⟨⟨_, Tryz.underlying34, rfl⟩, by kernel_rfl⟩
theorem fl_37_2 : Fld Tryz.prog 37 2 2 := ⟨_, _, 0, Tryz.underlying37, rfl, rfl, by kernel_rfl⟩
theorem one_5 : TyOne Tryz.prog 5 := ⟨⟨_, Tryz.underlying5, rfl⟩, by kernel_rfl⟩
theorem fl_37_1 : Fld Tryz.prog 37 1 1 := ⟨_, _, 0, Tryz.underlying37, rfl, rfl, by kernel_rfl⟩
theorem one_35 : TyOne Tryz.prog 35 := ⟨⟨_, Tryz.underlying35, rfl⟩, by kernel_rfl⟩
theorem ca_15 : Callable Tryz.prog 15 := ⟨_, _, Tryz.func15, rfl, rfl⟩
theorem ca_68 : Callable Tryz.prog 68 := ⟨_, _, Tryz.func68, rfl, rfl⟩
theorem sz_34 : (Tryz.prog.info? 34).map (·.size) = some 1 := by kernel_rfl
theorem ca_17 : Callable Tryz.prog 17 := ⟨_, _, Tryz.func17, rfl, rfl⟩
theorem ca_69 : Callable Tryz.prog 69 := ⟨_, _, Tryz.func69, rfl, rfl⟩
theorem fl_37_3 : Fld Tryz.prog 37 3 3 := ⟨_, _, 0, Tryz.underlying37, rfl, rfl, by kernel_rfl⟩
theorem ca_21 : Callable Tryz.prog 21 := ⟨_, _, Tryz.func21, rfl, rfl⟩
theorem ca_70 : Callable Tryz.prog 70 := ⟨_, _, Tryz.func70, rfl, rfl⟩
theorem ze_24 : (Tryz.prog.info? 24).map (·.zero) = some (some (.agg #[.slice none 0 0, .int .i64 0, .int .i64 0, .int .i64 0])) := by kernel_rfl
theorem bu_24_1_2_3 (v1 : Value) (v2 : Value) (v3 : Value) (h1 : v1.cells = #[v1]) (h2 : v2.cells = #[v2]) (h3 : v3.cells = #[v3]) (w : World) : (Instr.build 24 #[(1, v1), (2, v2), (3, v3)]).run Tryz.prog w = .ok (.agg #[.slice none 0 0, v1, v2, v3]) w := by
 have hz := @ze_24
 exact Go.Eng.run_build (pl := [(0, 1), (1, 1), (2, 1), (3, 1)]) hz Tryz.underlying24 (by kernel_rfl) rfl (by simp [Instr.fill, h1, h2, h3, cells_agg]) w
theorem ca_11 : Callable Tryz.prog 11 := ⟨_, _, Tryz.func11, rfl, rfl⟩
theorem ze_45 : (Tryz.prog.info? 45).map (·.zero) = some (some (.agg #[.bool false, .string ⟨#[]⟩, .int .u64 0])) := by kernel_rfl
theorem bu_45_1 (v1 : Value) (h1 : v1.cells = #[v1]) (w : World) : (Instr.build 45 #[(1, v1)]).run Tryz.prog w = .ok (.agg #[.bool false, v1, .int .u64 0]) w := by
 have hz := @ze_45
 exact Go.Eng.run_build (pl := [(0, 1), (1, 1), (2, 1)]) hz Tryz.underlying45 (by kernel_rfl) rfl (by simp [Instr.fill, h1, cells_agg]) w
theorem ze_97 : (Tryz.prog.info? 97).map (·.zero) = some (some (.agg #[.string ⟨#[]⟩, .bool false, .bool false, .string ⟨#[]⟩, .int .u64 0])) := by kernel_rfl
theorem bu_97_0_2 (v0 : Value) (v2_0 v2_1 v2_2 : Value) (h0 : v0.cells = #[v0]) (w : World) : (Instr.build 97 #[(0, v0), (2, .agg #[v2_0, v2_1, v2_2])]).run Tryz.prog w = .ok (.agg #[v0, .bool false, v2_0, v2_1, v2_2]) w := by
 have hz := @ze_97
 exact Go.Eng.run_build (pl := [(0, 1), (1, 1), (2, 3)]) hz Tryz.underlying97 (by kernel_rfl) rfl (by simp [Instr.fill, h0, cells_agg]) w
theorem sz_97 : (Tryz.prog.info? 97).map (·.size) = some 5 := by kernel_rfl
theorem bs_35_1 (v0_0 v0_1 v0_2 v0_3 v0_4 : Value)  (w : World) : (Instr.buildSlice 35 1 #[(0, .agg #[v0_0, v0_1, v0_2, v0_3, v0_4])]).run Tryz.prog w = .ok (.slice (some ⟨w.heap.size, 0, none⟩) 1 1) { w with heap := w.heap.push (.cells #[v0_0, v0_1, v0_2, v0_3, v0_4] 97 (0, 0)) } :=
 Go.Eng.run_buildSlice Tryz.underlying35 sz_97 ze_97 (by decide) (by rw [show Array.range (1 * 5) = #[0, 1, 2, 3, 4] from by decide]; simp [Instr.fill, cells_agg]) w
end FLaw11a
open FLaw11a
structure ActV where
 kind : Int
 hL : SH
 by' : Int
 seq : Int
 key : ByteArray
 ws : List Wr
def ActV.cs (a : ActV) : List Value := [.int .i64 a.kind, a.hL.v, .int .u8 a.by', .int .i64 a.seq, .string a.key]
def eAct : Enc ActV := ⟨37, 5, ActV.cs, fun _ => rfl, fun _ c h => by simp [ActV.cs] at h; rcases h with rfl | rfl | rfl | rfl | rfl <;> rfl, by decide⟩
/-- A call on a room, and on the last stamp. -/
def stampA (a : ActV) (x : Int) : Int := IntKind.u64.wrap (x + a.by')
def actX (X : RmX) (a : ActV) (x : Int) : RmX × Int := if a.kind = 1 then ((commitX X a.ws (stampA a x)).2.2, if (commitX X a.ws (stampA a x)).2.1 = 0 then stampA a x else x) else if a.kind = 2 then (swX X, x) else (X, x)
structure ActOk (W : HP) (a : ActV) : Prop where
 vis : Vis W (Rd eWr a.hL a.ws)
 bits : ∀ w ∈ a.ws, 0 ≤ w.val.bits ∧ w.val.bits ≤ 18446744073709551615
 by' : 0 ≤ a.by' ∧ a.by' ≤ 255
 seq : a.seq ≤ 9223372036854775807
theorem far_spec {A : HP} {h : SH} {ws : List Wr} (hv : Vis A (Rd eWr h ws)) : Does Tryz.prog 13 [h.v] [A] (fun v l => ∃ t, v = .bool t ∧ (t = false → ws.length ≤ 30) ∧ l = [A]) := by
 refine spec_of Tryz.func13 rfl Tryz.ntmps13 Tryz.results13 _ (by simp) fun ι F => ?_
 refine vc_see 0 rfl (hv.imp fun w r => r.len) (fun hlen => ?_)
 refine vc_seq ?_
 refine vc_region ?_
 refine vp ?_
 refine vc_nil ?_
 refine vc_then ?_
 refine vc_seq ?_
 refine vc_seq ?_
 refine vc_region ?_
 refine vp ?_
 refine vc_y (y_len Tryz.underlying35 rfl (by first | assumption | rfl)) rfl ?_
 refine vp ?_
 refine vc_nil ?_
 refine vc_then ?_
 first | refine vc_condP rfl (fun c6 => ?_) (fun c6 => ?_) | refine vc_condN rfl (fun c6 => ?_) (fun c6 => ?_) | refine vc_cond rfl (fun c6 => ?_) (fun c6 => ?_)
 ·skip
  refine vc_seq ?_
  refine vc_region ?_
  refine vp ?_
  refine vc_nil ?_
  refine vc_then ?_
  refine vc_ret ?_
  refine vc_thenRet ?_
  exact vc_end1 Tryz.results13 rfl _ (ent_pick [0] rfl) ⟨_, rfl, by first | (intro h0; cases h0; done) | (intro _; omega), rfl⟩
 ·skip
  refine vc_skip ?_
  refine vc_then ?_
  refine vc_seq ?_
  refine vc_seq ?_
  refine vc_region ?_
  refine vp ?_
  refine vc_nil ?_
  refine vc_then ?_
  refine vc_block ?_
  refine vc_loop (α := Nat) (fun xq_ => match xq_ with | i => [(0, h.v), (3, .int .i64 (i : Int))]) (fun xq_ => match xq_ with | i => [A]) (fun xq_ => match xq_ with | i => ws.length - i) (fun xq_ => match xq_ with | i => i ≤ ws.length) 0 (Nat.zero_le _) ⟨rfl, rfl, trivial⟩ (ent_pick [0] rfl) ?_
  rintro i hi
  show VC _ _ _ _ [(0, h.v), (3, .int .i64 (i : Int))] ([A])
  refine vc_seq ?_
  refine vc_seq ?_
  refine vc_region ?_
  refine vp ?_
  refine vp ?_
  refine vc_y (y_len Tryz.underlying35 rfl (by first | assumption | rfl)) rfl ?_
  refine vp ?_
  refine vc_nil ?_
  refine vc_then ?_
  first | refine vc_condP rfl (fun c10 => ?_) (fun c10 => ?_) | refine vc_condN rfl (fun c10 => ?_) (fun c10 => ?_) | refine vc_cond rfl (fun c10 => ?_) (fun c10 => ?_)
  ·skip
   have hi2 : i < ws.length := by omega
   refine vc_skip ?_
   refine vc_then ?_
   refine vc_seq ?_
   refine vc_block ?_
   refine vc_seq ?_
   refine vc_region ?_
   refine vp ?_
   refine vp ?_
   refine vc_y (y_elem 0 rfl (hv) i rfl hi2 sl_35 rfl rfl) rfl ?_
   refine vc_y (y_fieldE fl_97_0 0 rfl rfl) rfl ?_
   refine vc_y (y_load1 0 rfl one_9 rfl (Rd.vis1 (hv) (List.getElem?_eq_getElem (by first | assumption | omega)) rfl)) rfl ?_
   refine vc_y (y_strLen Tryz.underlying9 rfl) rfl ?_
   refine vp ?_
   refine vp ?_
   first | refine vc_splitP 20 rfl (fun c20 => ?_) (fun c20 => ?_) | refine vc_splitN 20 rfl (fun c20 => ?_) (fun c20 => ?_) | refine vc_split 20 rfl (fun c20 => ?_) (fun c20 => ?_)
   ·skip
    refine vc_guardF 20 rfl rfl rfl rfl ?_
    refine vc_guardF 20 rfl rfl rfl rfl ?_
    refine vc_guardF 20 rfl rfl rfl rfl ?_
    refine vc_guardF 20 rfl rfl rfl rfl ?_
    refine vc_guardF 20 rfl rfl rfl rfl ?_
    refine vc_guardF 20 rfl rfl rfl rfl ?_
    refine vc_guardF 20 rfl rfl rfl rfl ?_
    refine vc_guardF 20 rfl rfl rfl rfl ?_
    refine vp ?_
    refine vc_nil ?_
    refine vc_then ?_
    refine vc_condT rfl ?_
    refine vc_seq ?_
    refine vc_region ?_
    refine vp ?_
    refine vc_nil ?_
    refine vc_then ?_
    refine vc_ret ?_
    refine vc_inRet ?_
    refine vc_thenRet ?_
    refine vc_thenRet ?_
    refine vc_inRet ?_
    refine vc_thenRet ?_
    exact vc_end1 Tryz.results13 rfl _ (ent_pick [0] rfl) ⟨_, rfl, by first | (intro h0; cases h0; done) | (intro _; omega), rfl⟩
   ·skip
    refine vc_guardT 20 rfl rfl ?_
    refine vp ?_
    refine vc_guardT 20 rfl rfl ?_
    refine vp ?_
    refine vc_guardT 20 rfl rfl ?_
    refine vc_y (y_elem 0 rfl (hv) i rfl hi2 sl_35 rfl rfl) rfl ?_
    refine vc_guardT 20 rfl rfl ?_
    refine vc_y (y_fieldE fl_97_2 2 rfl rfl) rfl ?_
    refine vc_guardT 20 rfl rfl ?_
    refine vc_y (y_fieldE fl_45_1 3 rfl rfl) rfl ?_
    refine vc_guardT 20 rfl rfl ?_
    refine vc_y (y_load1 0 rfl one_9 rfl (Rd.vis1 (hv) (List.getElem?_eq_getElem (by first | assumption | omega)) rfl)) rfl ?_
    refine vc_guardT 20 rfl rfl ?_
    refine vc_y (y_strLen Tryz.underlying9 rfl) rfl ?_
    refine vc_guardT 20 rfl rfl ?_
    refine vp ?_
    refine vp ?_
    refine vc_nil ?_
    refine vc_then ?_
    first | refine vc_condP rfl (fun c29 => ?_) (fun c29 => ?_) | refine vc_condN rfl (fun c29 => ?_) (fun c29 => ?_) | refine vc_cond rfl (fun c29 => ?_) (fun c29 => ?_)
    ·skip
     refine vc_seq ?_
     refine vc_region ?_
     refine vp ?_
     refine vc_nil ?_
     refine vc_then ?_
     refine vc_ret ?_
     refine vc_inRet ?_
     refine vc_thenRet ?_
     refine vc_thenRet ?_
     refine vc_inRet ?_
     refine vc_thenRet ?_
     exact vc_end1 Tryz.results13 rfl _ (ent_pick [0] rfl) ⟨_, rfl, by first | (intro h0; cases h0; done) | (intro _; omega), rfl⟩
    ·skip
     refine vc_skip ?_
     refine vc_inNormal ?_
     refine vc_then ?_
     refine vc_region ?_
     refine vp ?_
     first | refine vc_y (y_arith _ rfl (wrapNadd (by omega))) rfl ?_ | refine vc_y (y_arith _ rfl (wrap64 (by omega) (by omega))) rfl ?_ | refine vp ?_
     refine vp ?_
     refine vc_nil ?_
     refine vc_then ?_
     exact vc_again (x := i) (i + 1) hi2 (by show ws.length - (i + 1) < ws.length - i; omega) ⟨rfl, rfl, trivial⟩ (ent_pick [0] rfl)
  ·skip
   refine vc_exit ?_
   refine vc_thenExit ?_
   refine vc_thenExit ?_
   refine vc_inExit ?_
   refine vc_then ?_
   refine vc_seq ?_
   refine vc_region ?_
   refine vp ?_
   refine vc_nil ?_
   refine vc_then ?_
   refine vc_ret ?_
   exact vc_end1 Tryz.results13 rfl _ (ent_pick [0] rfl) ⟨_, rfl, by first | (intro h0; cases h0; done) | (intro _; omega), rfl⟩
theorem does_spec {b bm bs : Nat} {X : RmX} (ok : X.ok) {W : HP} {a : ActV} (hA : ActOk W a) (hb : a.ws.length ≤ 1000000) (hbg : X.R.seq - X.R.begin < 900000) (hle : X.M.length + a.ws.length ≤ 100000 ∨ mayW a.ws = false) (x : Int) : Does Tryz.prog 14 [.pointer (some ⟨b, 0, none⟩), .pointer (some ⟨bm, 0, none⟩), .agg #[.int .i64 a.kind, a.hL.v, .int .u8 a.by', .int .i64 a.seq, .string a.key], .pointer (some ⟨bs, 0, none⟩)] [RoomC b X, RefC bm X, Pts bs [.int .u64 x] 34, W] (fun v l => v = .bool true ∧ (actX X a x).1.ok ∧ l = [RoomC b (actX X a x).1, RefC bm (actX X a x).1, Pts bs [.int .u64 (actX X a x).2] 34, W]) := by
 refine spec_of Tryz.func14 rfl Tryz.ntmps14 Tryz.results14 _ (by simp) fun ι F => ?_
 obtain ⟨h1, h2⟩ := hA.by'
 refine vc_seq ?_
 refine vc_region ?_
 refine vc_box [_, _, _, _, _] rfl rfl rfl (fun b6 => ?_)
 refine vp ?_
 refine vc_nil ?_
 refine vc_then ?_
 refine vc_seq ?_
 refine vc_seq ?_
 refine vc_region ?_
 refine vc_y (y_fieldP fl_37_0 0 rfl rfl) rfl ?_
 refine vc_y (y_load1 0 rfl one_3 rfl (Pts.vis rfl)) rfl ?_
 refine vc_nil ?_
 refine vc_then ?_
 refine vc_block ?_
 refine vc_seq ?_
 refine vc_region ?_
 refine vp ?_
 refine vp ?_
 refine vc_nil ?_
 refine vc_then ?_
 first | refine vc_condP rfl (fun c16 => ?_) (fun c16 => ?_) | refine vc_condN rfl (fun c16 => ?_) (fun c16 => ?_) | refine vc_cond rfl (fun c16 => ?_) (fun c16 => ?_)
 ·skip
  have hk : a.kind = 1 := c16
  refine vc_seq ?_
  refine vc_draw (by kernel_rfl) _ none [0, 2] rfl ?_
  refine tpp 0 ?_
  refine tpp 1 ?_
  refine tk 2 rfl (by exact y_load1 1 rfl one_34 rfl (Pts.vis rfl)) ?_
  refine tp 3 rfl (by exact y_fieldP fl_37_2 2 rfl rfl) ?_
  refine tk 4 rfl (by exact y_load1 0 rfl one_5 rfl (Pts.vis rfl)) ?_
  first | refine tp 5 rfl (by exact y_conv _ Tryz.underlying5 Tryz.underlying34 rfl (wrapU64 (by omega) (by omega))) ?_ | refine tp 5 rfl (by exact y_conv _ Tryz.underlying5 Tryz.underlying34 rfl rfl) ?_
  refine tp 6 rfl (by exact y_p (Value.int .u64 (stampA a x)) rfl) ?_
  refine tpp 7 ?_
  refine va_done (by kernel_rfl) ?_
  refine vc_then ?_
  refine vc_seq ?_
  refine vc_region ?_
  refine vp ?_
  refine vc_y (y_fieldP fl_37_1 1 rfl rfl) rfl ?_
  refine vc_y (y_load1 0 rfl one_35 rfl (Pts.vis rfl)) rfl ?_
  refine vp ?_
  refine vc_callv ca_15 (us := []) (vs := []) rfl [_, _, _] rfl [1, 3] rfl (room_commit ok hA.vis hb (stampA a x) hbg hle) rfl ?_
  rintro _ _ ⟨rfl, rfl⟩
  iterate 5 refine vp ?_
  refine vc_nil ?_
  refine vc_then ?_
  refine vc_seq ?_
  refine vc_region ?_
  refine vp ?_
  refine vc_y (y_fieldP fl_37_1 1 rfl rfl) rfl ?_
  refine vc_y (y_load1 2 rfl one_35 rfl (Pts.vis rfl)) rfl ?_
  refine vp ?_
  refine vc_callv ca_68 (us := []) (vs := []) rfl [_, _, _] rfl [3, 1] rfl (ref_commit hA.vis hb hA.bits hbg hle (stampA a x)) rfl ?_
  rintro _ _ ⟨rfl, hok2, rfl⟩
  iterate 5 refine vp ?_
  refine vc_nil ?_
  refine vc_then ?_
  refine vc_seq ?_
  refine vc_seq ?_
  refine vc_region ?_
  refine vp ?_
  refine vp ?_
  refine vc_nil ?_
  refine vc_then ?_
  first | refine vc_condP rfl (fun c42 => ?_) (fun c42 => ?_) | refine vc_condN rfl (fun c42 => ?_) (fun c42 => ?_) | refine vc_cond rfl (fun c42 => ?_) (fun c42 => ?_)
  ·skip
   have hax : actX X a x = ((commitX X a.ws (stampA a x)).2.2, stampA a x) := by unfold actX; rw [if_pos hk, if_pos c42]
   rw [hax]
   refine vc_region ?_
   iterate 3 refine vp ?_
   refine vc_storeP 4 rfl [_] [_] rfl rfl rfl sz_34 rfl rfl rfl ?_
   refine vc_nil ?_
   refine vc_then ?_
   refine vc_seq ?_
   refine vc_region ?_
   iterate 4 refine vp ?_
   first | refine vc_splitP 49 rfl (fun c49 => ?_) (fun c49 => ?_) | refine vc_splitN 49 rfl (fun c49 => ?_) (fun c49 => ?_) | refine vc_split 49 rfl (fun c49 => ?_) (fun c49 => ?_)
   ·skip
    refine vc_guardT 49 rfl rfl ?_
    refine vp ?_
    refine vc_guardT 49 rfl rfl ?_
    refine vp ?_
    refine vc_guardT 49 rfl rfl ?_
    iterate 3 refine vp ?_
    refine vc_nil ?_
    refine vc_then ?_
    refine vc_ret ?_
    refine vc_inRet ?_
    refine vc_thenRet ?_
    exact vc_end1 Tryz.results14 rfl _ (ent_pick [2, 0, 2, 0] rfl) ⟨by simp, by first | exact hok2 | exact ok.sweep | exact ok, rfl⟩
   ·skip
    exact absurd rfl c49
  ·skip
   have hax : actX X a x = ((commitX X a.ws (stampA a x)).2.2, x) := by unfold actX; rw [if_pos hk, if_neg c42]
   rw [hax]
   refine vc_skip ?_
   refine vc_then ?_
   refine vc_seq ?_
   refine vc_region ?_
   iterate 4 refine vp ?_
   first | refine vc_splitP 49 rfl (fun c49 => ?_) (fun c49 => ?_) | refine vc_splitN 49 rfl (fun c49 => ?_) (fun c49 => ?_) | refine vc_split 49 rfl (fun c49 => ?_) (fun c49 => ?_)
   ·skip
    refine vc_guardT 49 rfl rfl ?_
    refine vp ?_
    refine vc_guardT 49 rfl rfl ?_
    refine vp ?_
    refine vc_guardT 49 rfl rfl ?_
    iterate 3 refine vp ?_
    refine vc_nil ?_
    refine vc_then ?_
    refine vc_ret ?_
    refine vc_inRet ?_
    refine vc_thenRet ?_
    exact vc_end1 Tryz.results14 rfl _ (ent_pick [2, 0, 2, 0] rfl) ⟨by simp, by first | exact hok2 | exact ok.sweep | exact ok, rfl⟩
   ·skip
    exact absurd rfl c49
 ·skip
  have hk : ¬ a.kind = 1 := c16
  refine vc_seq ?_
  refine vc_region ?_
  refine vp ?_
  refine vp ?_
  refine vc_nil ?_
  refine vc_then ?_
  first | refine vc_condP rfl (fun c54 => ?_) (fun c54 => ?_) | refine vc_condN rfl (fun c54 => ?_) (fun c54 => ?_) | refine vc_cond rfl (fun c54 => ?_) (fun c54 => ?_)
  ·skip
   have hk2 : a.kind = 2 := c54
   have hax : actX X a x = (swX X, x) := by unfold actX; rw [if_neg hk, if_pos hk2]
   rw [hax]
   refine vc_seq ?_
   refine vc_region ?_
   refine vp ?_
   refine vc_callv ca_17 (us := []) (vs := []) rfl [_] rfl [1] rfl (room_sweep ok) rfl ?_
   rintro _ _ ⟨rfl, rfl⟩
   refine vp ?_
   refine vc_callv ca_69 (us := []) (vs := []) rfl [_] rfl [2] rfl (ref_sweep ok) rfl ?_
   rintro _ _ ⟨rfl, rfl⟩
   refine vp ?_
   refine vp ?_
   refine vc_nil ?_
   refine vc_then ?_
   refine vc_ret ?_
   refine vc_inRet ?_
   refine vc_thenRet ?_
   exact vc_end1 Tryz.results14 rfl _ (ent_pick [1, 0, 1, 1] rfl) ⟨by simp, by first | exact hok2 | exact ok.sweep | exact ok, rfl⟩
  ·skip
   have hk2 : ¬ a.kind = 2 := c54
   have hax : actX X a x = (X, x) := by unfold actX; rw [if_neg hk, if_neg hk2]
   rw [hax]
   refine vc_seq ?_
   refine vc_region ?_
   refine vp ?_
   refine vp ?_
   refine vc_nil ?_
   refine vc_then ?_
   first | refine vc_condP rfl (fun c61 => ?_) (fun c61 => ?_) | refine vc_condN rfl (fun c61 => ?_) (fun c61 => ?_) | refine vc_cond rfl (fun c61 => ?_) (fun c61 => ?_)
   ·skip
    refine vc_seq ?_
    refine vc_draw (by kernel_rfl) _ none [0] rfl ?_
    refine tpp 0 ?_
    refine tp 1 rfl (by exact y_fieldP fl_37_1 1 rfl rfl) ?_
    refine tk 2 rfl (by exact y_load1 0 rfl one_35 rfl (Pts.vis rfl)) ?_
    refine tp 3 rfl (by exact y_fieldP fl_37_3 3 rfl rfl) ?_
    refine tk 4 rfl (by exact y_load1 0 rfl one_3 rfl (Pts.vis rfl)) ?_
    refine tpp 6 ?_
    refine tp 7 rfl (by exact y_fieldP fl_37_1 1 rfl rfl) ?_
    refine tk 8 rfl (by exact y_load1 0 rfl one_35 rfl (Pts.vis rfl)) ?_
    refine tp 9 rfl (by exact y_fieldP fl_37_3 3 rfl rfl) ?_
    refine tk 10 rfl (by exact y_load1 0 rfl one_3 rfl (Pts.vis rfl)) ?_
    refine va_ready [5] (by kernel_rfl) rfl ?_
    refine vo_cons rfl (fun hC0 => ?_) ?_
    ·skip
     refine vc_callv ca_21 (us := []) (vs := []) rfl [_, _, _] rfl [1, 3] rfl (room_check ok hA.vis hb a.seq) rfl ?_
     rintro _ _ ⟨rfl, rfl⟩
     refine vc_nil ?_
     refine vc_then ?_
     refine va_kept hC0 [2] rfl ?_
     clear hC0
     refine va_ready [11] (by kernel_rfl) rfl ?_
     refine vo_cons rfl (fun hC0 => ?_) ?_
     ·skip
      refine vc_callv ca_70 (us := []) (vs := []) rfl [_, _, _] rfl [3, 1] rfl (ref_check hA.vis hb hA.bits hbg hle a.seq) rfl ?_
      rintro _ _ ⟨rfl, rfl⟩
      refine vc_nil ?_
      refine vc_then ?_
      refine va_kept hC0 [3] rfl ?_
      clear hC0
      refine tpp 12 ?_
      refine tpp 13 ?_
      refine va_done (by kernel_rfl) ?_
      refine vc_then ?_
      refine vc_ret ?_
      refine vc_inRet ?_
      refine vc_thenRet ?_
      exact vc_end1 Tryz.results14 rfl _ (ent_pick [2, 0, 2, 0] rfl) ⟨by simp, by first | exact hok2 | exact ok.sweep | exact ok, rfl⟩
     exact vo_nil
    exact vo_nil
   ·skip
    refine vc_skip ?_
    refine vc_inNormal ?_
    refine vc_then ?_
    refine vc_seq ?_
    refine vc_region ?_
    refine vp ?_
    refine vc_nil ?_
    refine vc_then ?_
    refine vc_ret ?_
    exact vc_end1 Tryz.results14 rfl _ (ent_pick [1, 1, 1, 1] rfl) ⟨by simp, by first | exact hok2 | exact ok.sweep | exact ok, rfl⟩
theorem setting11 : setRight [] 1 3 9 = true := by kernel_rfl
def X11 : RmX := X0 [] 1 3 9 0
theorem X11_ok : X11.ok := X0_ok setting11 (by decide) (by decide)
theorem vis_nil11 {α : Type} {E : Enc α} : Vis emp (Rd E nilS ([] : List α)) := fun _ _ _ => Rd.nil
theorem new11 : Does Tryz.prog 11 [.agg #[nilS.v, .int .i64 1, .int .i64 3, .int .i64 9]] [] (fun v l => ∃ b, v = verTup b ∧ l = [RoomC b X11]) :=
 Does.pre Ent.empL (Does.fin (new_ok (A := emp) vis_nil11 1 3 9 setting11) fun v l ⟨b, e, h⟩ => ⟨[RoomC b X11], h ▸ Ent.sep Ent.rfl Ent.right, b, e, rfl⟩)
def w11a : List Wr := [⟨⟨#[107]⟩, false, ⟨false, ⟨#[120]⟩, 0⟩⟩]
def w11b : List Wr := [⟨⟨#[107]⟩, false, ⟨false, ⟨#[120, 121]⟩, 0⟩⟩]
theorem chk11a : checkE X11 w11a 0 = 0 := by kernel_rfl
theorem chk11b : checkE X11 w11b 0 = 15 := by kernel_rfl
theorem awake11 : Does Tryz.prog 10 [] [] (fun v l => v = .bool true ∧ l = []) := by
 refine spec_of Tryz.func10 rfl Tryz.ntmps10 Tryz.results10 _ (by simp) fun ι F => ?_
 refine vc_seq ?_
 refine vc_region ?_
 refine vp ?_
 refine vc_nil ?_
 refine vc_then ?_
 refine vc_seq ?_
 refine vc_region ?_
 refine vc_y (y_build [(1, _), (2, _), (3, _)] [_, _, _, _] rfl (bu_24_1_2_3 _ _ _ rfl rfl rfl)) rfl ?_
 refine vc_callv ca_11 (us := []) (vs := []) rfl [_] rfl [] rfl (new11) rfl ?_
 rintro _ _ ⟨b, rfl, rfl⟩
 iterate 5 refine vp ?_
 refine vc_nil ?_
 refine vc_then ?_
 refine vc_seq ?_
 refine vc_region ?_
 refine vp ?_
 refine vc_y (y_build [(1, _)] [_, _, _] rfl (bu_45_1 _ rfl)) rfl ?_
 refine vc_y (y_build [(0, _), (2, _)] [_, _, _, _, _] rfl (bu_97_0_2 _ _ _ _ rfl)) rfl ?_
 refine vc_buildSlice (E := eWr) [(0, _)] w11a rfl rfl (bs_35_1 _ _ _ _ _ ) rfl (fun h13 => ?_)
 refine vc_callv ca_21 (us := []) (vs := []) rfl [_, _, _] rfl [1, 0] rfl (Does.re (room_check X11_ok (ws := w11a) Sl.vis (by simp [w11a]) 0) (show _ = Value.int .i64 0 by rw [chk11a])) rfl ?_
 rintro _ _ ⟨rfl, rfl⟩
 refine vp ?_
 refine vc_nil ?_
 refine vc_then ?_
 refine vc_seq ?_
 refine vc_region ?_
 refine vp ?_
 refine vc_y (y_build [(1, _)] [_, _, _] rfl (bu_45_1 _ rfl)) rfl ?_
 refine vc_y (y_build [(0, _), (2, _)] [_, _, _, _, _] rfl (bu_97_0_2 _ _ _ _ rfl)) rfl ?_
 refine vc_buildSlice (E := eWr) [(0, _)] w11b rfl rfl (bs_35_1 _ _ _ _ _ ) rfl (fun h18 => ?_)
 refine vc_callv ca_21 (us := []) (vs := []) rfl [_, _, _] rfl [1, 0] rfl (Does.re (room_check X11_ok (ws := w11b) Sl.vis (by simp [w11b]) 0) (show _ = Value.int .i64 15 by rw [chk11b])) rfl ?_
 rintro _ _ ⟨rfl, rfl⟩
 refine vp ?_
 refine vc_nil ?_
 refine vc_then ?_
 refine vc_seq ?_
 refine vc_region ?_
 iterate 3 refine vp ?_
 first | refine vc_splitP 22 rfl (fun c22 => ?_) (fun c22 => ?_) | refine vc_splitN 22 rfl (fun c22 => ?_) (fun c22 => ?_) | refine vc_split 22 rfl (fun c22 => ?_) (fun c22 => ?_)
 ·skip
  refine vc_guardT 22 rfl rfl ?_
  refine vp ?_
  refine vc_guardT 22 rfl rfl ?_
  iterate 3 refine vp ?_
  first | refine vc_splitP 26 rfl (fun c26 => ?_) (fun c26 => ?_) | refine vc_splitN 26 rfl (fun c26 => ?_) (fun c26 => ?_) | refine vc_split 26 rfl (fun c26 => ?_) (fun c26 => ?_)
  ·skip
   refine vc_guardT 26 rfl rfl ?_
   refine vp ?_
   refine vc_guardT 26 rfl rfl ?_
   iterate 3 refine vp ?_
   refine vc_nil ?_
   refine vc_then ?_
   refine vc_ret ?_
   exact vc_end1 Tryz.results10 rfl _ (ent_pick [] rfl) ⟨by simp, rfl⟩
  ·skip
   simp at c26
 ·skip
  simp at c22
end Go.Proofs.YtcpbibdbahfgaaaGreat
/-
 What is told of a room on both sides, in plain terms.
-/
set_option linter.unusedVariables false
set_option autoImplicit false
namespace Go.Proofs.YtcpbibdbahfgaaaGreat
open Go.Eng
/-! ### The first that lives -/
theorem from_skip (key : ByteArray) (ab : Bool) (s : Int) : ∀ (A B : Mp) (n : Nat), (∀ p ∈ A, (sLt key p.1 || (!ab && sEq p.1 key)) = false) → fromI key ab s (A ++ B) n = fromI key ab s B (n + A.length)
 | [], B, n, _ => by simp
 | p :: A, B, n, h => by
  have h1 := h p (by simp)
  simp only [List.cons_append, fromI, h1, Bool.and_false, Bool.false_eq_true, if_false]
  rw [from_skip key ab s A B (n + 1) fun q hq => h q (by simp [hq])]
  simp only [List.length_cons]
  congr 1; omega
theorem from_find (key : ByteArray) (ab : Bool) (s : Int) : ∀ (B : Mp) (n : Nat), (∀ p ∈ B, (sLt key p.1 || (!ab && sEq p.1 key)) = true) →
  (fromI key ab s B n = -1 ∧ firstLive B s = none) ∨ ∃ (j : Nat) (p : ByteArray × List Ver) (v : Ver), fromI key ab s B n = ((n + j : Nat) : Int) ∧ B[j]? = some p ∧ verAt p.2 s = some v ∧ firstLive B s = some (p.1, v)
 | [], n, _ => .inl ⟨rfl, rfl⟩
 | p :: B, n, h => by
  have h1 := h p (by simp)
  cases hv : verAt p.2 s with
  | some v =>
   refine .inr ⟨0, p, v, ?_, rfl, hv, ?_⟩
   ·simp only [fromI, h1, hv, Option.isSome_some, Bool.and_true, if_true]; rfl
   ·simp only [firstLive, hv]
  | none =>
   have e1 : fromI key ab s (p :: B) n = fromI key ab s B (n + 1) := by simp only [fromI, hv, Option.isSome_none, Bool.false_and, Bool.false_eq_true, if_false]
   have e2 : firstLive (p :: B) s = firstLive B s := by simp only [firstLive, hv]
   rw [e1, e2]
   rcases from_find key ab s B (n + 1) fun q hq => h q (by simp [hq]) with h2 | ⟨j, q, v, a1, a2, a3, a4⟩
   ·exact .inl h2
   ·exact .inr ⟨j + 1, q, v, by rw [a1]; congr 1; omega, by simpa using a2, a3, a4⟩
theorem from_live {M : Mp} (hr : Rise (ks M)) (key : ByteArray) (ab : Bool) (s : Int) :
  (fromI key ab s M 0 = -1 ∧ liveFrom M key ab s = none) ∨ ∃ (j : Nat) (p : ByteArray × List Ver) (v : Ver), fromI key ab s M 0 = (j : Int) ∧ M[j]? = some p ∧ verAt p.2 s = some v ∧ liveFrom M key ab s = some (p.1, v) := by
 have hb := lb_le (ks M) key
 have hkl : (ks M).length = M.length := by simp [ks]
 have key_at : ∀ i (hi : i < M.length), (ks M)[i]'(by omega) = M[i].1 := fun i hi => by simp [ks]
 have hlt : ∀ i (hi : i < M.length), sLt M[i].1 key = true ↔ i < lb (ks M) key := fun i hi => by rw [← key_at i hi]; exact lb_iff hr key (by omega)
 have heq : ∀ i (hi : i < M.length), M[i].1 = key → i = lb (ks M) key ∧ fnd (ks M) key = true := fun i hi e => by
  have := lb_at hr (p := i) (k := key) (by rw [List.getElem?_eq_getElem (by omega), key_at i hi, e])
  exact ⟨this.1.symm, this.2⟩
 have hnp : nextP M key ab ≤ M.length := by
  unfold nextP
  split
  ·rename_i h
   simp only [Bool.and_eq_true] at h
   have := fnd_lt0 h.1
   omega
  ·omega
 have hA : ∀ p ∈ M.take (nextP M key ab), (sLt key p.1 || (!ab && sEq p.1 key)) = false := by
  intro p hp
  obtain ⟨i, hi, rfl⟩ := List.mem_take_iff_getElem.1 hp
  have hi2 : i < M.length := by omega
  by_cases hl : i < lb (ks M) key
  ·have h1 := (hlt i hi2).2 hl
   rw [sLt_asymm h1, sEq_false.2 (sLt_ne h1)]; simp
  ·have hn : nextP M key ab = lb (ks M) key + 1 := by
    unfold nextP at hi ⊢
    split
    ·rfl
    ·rename_i h; rw [if_neg h] at hi; omega
   have hab : fnd (ks M) key = true ∧ ab = true := by
    unfold nextP at hn
    split at hn
    ·rename_i h; simpa using h
    ·omega
   have hil : i = lb (ks M) key := by omega
   obtain ⟨w, A, B, e1, e2, e3, e4, e5⟩ := fnd_split hab.1
   have hk : M[i].1 = key := by
    have : M[i]? = some (key, w) := by
     rw [hil, ← e3]
     conv => lhs; arg 1; rw [e2]
     simp
    rw [List.getElem?_eq_getElem hi2] at this
    rw [Option.some.inj this]
   rw [hk, sLt_irrefl, hab.2]; rfl
 have hB : ∀ p ∈ M.drop (nextP M key ab), (sLt key p.1 || (!ab && sEq p.1 key)) = true := by
  intro p hp
  obtain ⟨i, hi, rfl⟩ := List.mem_drop_iff_getElem.1 hp
  have hge : ¬ sLt M[nextP M key ab + i].1 key = true := fun h0 => by
   have := (hlt _ (by omega)).1 h0
   have : lb (ks M) key ≤ nextP M key ab := by unfold nextP; split <;> omega
   omega
  rcases sLt_total key M[nextP M key ab + i].1 with h | h | h
  ·rw [h]; rfl
  ·have := heq _ (by omega) h.symm
   have hab : ab = false := by
    cases ab with
    | false => rfl
    | true =>
     unfold nextP at this
     rw [if_pos (by simp [this.2])] at this
     omega
   have h2 : sEq M[nextP M key ab + i].1 key = true := by rw [← h]; exact sEq_self _
   have h3 : (!ab) = true := by rw [hab]; rfl
   rw [h2, h3]; simp
  ·exact absurd h hge
 have e := List.take_append_drop (nextP M key ab) M
 have h0 := from_skip key ab s _ (M.drop (nextP M key ab)) 0 hA
 rw [e] at h0
 rw [h0]
 unfold liveFrom
 rcases from_find key ab s _ (0 + (M.take (nextP M key ab)).length) hB with h2 | ⟨j, q, v, a1, a2, a3, a4⟩
 ·exact .inl h2
 ·refine .inr ⟨nextP M key ab + j, q, v, ?_, ?_, a3, a4⟩
  ·rw [a1, List.length_take]; congr 1; omega
  ·rw [List.getElem?_drop] at a2; exact a2
/-! ### Counts -/
theorem bhd_all {s : Int} : ∀ {l : List Ver}, (∀ v ∈ l, v.seq ≤ s) → bhd l s = l.length
 | [], _ => rfl
 | v :: r, h => by
  simp only [bhd, List.length_cons]
  rw [if_pos (h v (by simp)), bhd_all fun w hw => h w (by simp [hw])]
theorem verAt_last {l : List Ver} {s : Int} (hc : chainRight l = true) (h : ∀ v ∈ l, v.seq ≤ s) (hne : l ≠ []) : ∃ v, verLast l = some v ∧ verAt l s = (if v.gone then none else some v) := by
 have hl : 0 < l.length := by cases l with | nil => exact absurd rfl hne | cons v r => simp
 refine ⟨l[l.length - 1]'(by omega), by unfold verLast; rw [if_pos hc]; exact List.getElem?_eq_getElem (by omega), ?_⟩
 have hb := bhd_all h
 have h1 : 1 ≤ s := by
  have := h _ (List.getElem_mem (show 0 < l.length by omega))
  have := (chain_seq hc hl).1
  omega
 unfold verAt
 rw [hc, hb, List.getElem?_eq_getElem (by omega)]
 simp only [Bool.true_and, decide_eq_true h1, if_true]
 cases (l[l.length - 1]'(by omega)).gone <;> simp <;> omega
theorem lives_verAt {R : RR} {p : ByteArray × List Ver} (h : PairOk R p) : min (lives p.1 p.2) 1 = ((match verAt p.2 R.seq with | some _ => 1 | none => 0 : Nat) : Int) := by
 obtain ⟨v, h1, h2⟩ := verAt_last h.c h.sq h.ne
 have hv : cWeight p.2 = if v.gone then 0 else vWeight v.val := by unfold cWeight; rw [h1]
 have hm : v ∈ p.2 := by
  unfold verLast at h1
  rw [if_pos h.c] at h1
  exact List.mem_of_getElem? h1
 have hw := vWeight_pos (verRight_val (chainFrom_mem h.c v hm).2)
 have hk := h.k1
 rw [h2]
 unfold lives
 rw [hv]
 cases v.gone with
 | true => simp; rfl
 | false => simp only [Bool.false_eq_true, if_false]; rw [if_neg (by omega)]; show min _ 1 = (1 : Int); omega
theorem count_ent {X : RmX} (ok : X.ok) : countM X.M = ((entM X.M X.R.seq).length : Int) := by
 have : ∀ M : Mp, (∀ p ∈ M, PairOk X.R p) → countM M = ((entM M X.R.seq).length : Int) := by
  intro M
  induction M with
  | nil => intro _; rfl
  | cons p r ih =>
   intro h
   have h1 := lives_verAt (h p (by simp))
   have h2 := ih fun q hq => h q (by simp [hq])
   unfold countM at *
   simp only [sumM]
   rw [h1, h2]
   unfold entM en1
   rw [List.filterMap_cons]
   cases verAt p.2 X.R.seq with
   | none => simp
   | some v => simp; omega
 exact this X.M ok.ps
end Go.Proofs.YtcpbibdbahfgaaaGreat
/-
 Layer 11: what is told on both sides.
-/
set_option linter.unusedVariables false
set_option linter.unusedSimpArgs false
set_option autoImplicit false
set_option maxHeartbeats 4000000
namespace Go.Proofs.YtcpbibdbahfgaaaGreat
open Go.Eng
namespace FLaw11b
theorem ca_19 : Callable Tryz.prog 19 := ⟨_, _, Tryz.func19, rfl, rfl⟩
theorem ze_45 : (Tryz.prog.info? 45).map (·.zero) = some (some (.agg #[.bool false, .string ⟨#[]⟩, .int .u64 0])) := by kernel_rfl
theorem sz_45 : (Tryz.prog.info? 45).map (·.size) = some 3 := by kernel_rfl
theorem ca_97 : Callable Tryz.prog 97 := ⟨_, _, Tryz.func97, rfl, rfl⟩
theorem ca_96 : Callable Tryz.prog 96 := ⟨_, _, Tryz.func96, rfl, rfl⟩
theorem ze_135 : (Tryz.prog.info? 135).map (·.zero) = some (some (.agg #[.int .i64 0, .bool false, .bool false, .string ⟨#[]⟩, .int .u64 0])) := by kernel_rfl
theorem sz_135 : (Tryz.prog.info? 135).map (·.size) = some 5 := by kernel_rfl
theorem ag_45 : TyAgg Tryz.prog 45 3 := ⟨⟨_, Tryz.underlying45, rfl⟩, by kernel_rfl⟩
theorem fl_135_2 : Fld Tryz.prog 135 2 2 := ⟨_, _, 2, Tryz.underlying135, rfl, rfl, by kernel_rfl⟩
theorem eg_45 : Tryz.prog.eqGuardType Tryz.prog.depth 45 = false := by kernel_rfl
theorem ca_98 : Callable Tryz.prog 98 := ⟨_, _, Tryz.func98, rfl, rfl⟩
theorem ca_20 : Callable Tryz.prog 20 := ⟨_, _, Tryz.func20, rfl, rfl⟩
theorem ca_99 : Callable Tryz.prog 99 := ⟨_, _, Tryz.func99, rfl, rfl⟩
theorem bu_45_n   (w : World) : (Instr.build 45 #[]).run Tryz.prog w = .ok (.agg #[.bool false, .string ⟨#[]⟩, .int .u64 0]) w := by
 have hz := @ze_45
 exact Go.Eng.run_build (pl := [(0, 1), (1, 1), (2, 1)]) hz Tryz.underlying45 (by kernel_rfl) rfl (by simp [Instr.fill, cells_agg]) w
theorem fl_67_2 : Fld Tryz.prog 67 2 5 := ⟨_, _, 0, Tryz.underlying67, rfl, rfl, by kernel_rfl⟩
theorem one_65 : TyOne Tryz.prog 65 := ⟨⟨_, Tryz.underlying65, rfl⟩, by kernel_rfl⟩
theorem sl_65 : TySl Tryz.prog 65 152 2 := ⟨Tryz.underlying65, by kernel_rfl⟩
theorem fl_152_1 : Fld Tryz.prog 152 1 1 := ⟨_, _, 0, Tryz.underlying152, rfl, rfl, by kernel_rfl⟩
theorem one_138 : TyOne Tryz.prog 138 := ⟨⟨_, Tryz.underlying138, rfl⟩, by kernel_rfl⟩
theorem fl_152_0 : Fld Tryz.prog 152 0 0 := ⟨_, _, 0, Tryz.underlying152, rfl, rfl, by kernel_rfl⟩
theorem one_9 : TyOne Tryz.prog 9 := ⟨⟨_, Tryz.underlying9, rfl⟩, by kernel_rfl⟩
theorem ca_16 : Callable Tryz.prog 16 := ⟨_, _, Tryz.func16, rfl, rfl⟩
theorem ca_37 : Callable Tryz.prog 37 := ⟨_, _, Tryz.func37, rfl, rfl⟩
theorem ca_18 : Callable Tryz.prog 18 := ⟨_, _, Tryz.func18, rfl, rfl⟩
theorem ca_90 : Callable Tryz.prog 90 := ⟨_, _, Tryz.func90, rfl, rfl⟩
theorem ca_22 : Callable Tryz.prog 22 := ⟨_, _, Tryz.func22, rfl, rfl⟩
theorem ca_89 : Callable Tryz.prog 89 := ⟨_, _, Tryz.func89, rfl, rfl⟩
theorem ca_24 : Callable Tryz.prog 24 := ⟨_, _, Tryz.func24, rfl, rfl⟩
theorem ca_91 : Callable Tryz.prog 91 := ⟨_, _, Tryz.func91, rfl, rfl⟩
theorem ca_23 : Callable Tryz.prog 23 := ⟨_, _, Tryz.func23, rfl, rfl⟩
theorem ca_92 : Callable Tryz.prog 92 := ⟨_, _, Tryz.func92, rfl, rfl⟩
theorem ca_26 : Callable Tryz.prog 26 := ⟨_, _, Tryz.func26, rfl, rfl⟩
theorem ca_25 : Callable Tryz.prog 25 := ⟨_, _, Tryz.func25, rfl, rfl⟩
theorem sl_22 : TySl Tryz.prog 22 34 1 := ⟨Tryz.underlying22, by kernel_rfl⟩
theorem one_34 : TyOne Tryz.prog 34 := ⟨⟨_, Tryz.underlying34, rfl⟩, by kernel_rfl⟩
theorem ca_102 : Callable Tryz.prog 102 := ⟨_, _, Tryz.func102, rfl, rfl⟩
end FLaw11b
open FLaw11b
theorem told0 {b bm : Nat} {K : RfK} {hO : SH} {T : List On} {bg : Int} {L : List Int} {X : RmX} (H : RfH X K T bg L) (key : ByteArray) {seq : Int} (h2 : seq ≤ 9223372036854775807) : Does Tryz.prog 36 [.pointer (some ⟨b, 0, none⟩), .pointer (some ⟨bm, 0, none⟩), .string key, .int .i64 seq] [RfP bm K hO, RoSl eOne hO T, RoM T, RoomC b X] (fun v l => v = .bool true ∧ l = [RfP bm K hO, RoSl eOne hO T, RoM T, RoomC b X]) := by
 refine spec_of Tryz.func36 rfl Tryz.ntmps36 Tryz.results36 _ (by simp) fun ι F => ?_
 have ok := H.ok
 have hT := ok.tok H.m
 have hb3 := hT.n
 have hch := H.chain key
 have hcl := (ok.chain key).2.1
 refine vc_see 1 rfl (RoSl.vis.imp fun w r => r.len) (fun hlen => ?_)
 refine vc_seq ?_
 refine vc_region ?_
 refine vp ?_
 refine vc_nil ?_
 refine vc_then ?_
 refine vc_seq ?_
 refine vc_region ?_
 iterate 3 refine vp ?_
 refine vc_callv ca_19 (us := []) (vs := []) rfl [_, _, _] rfl [3] rfl (room_get ok key h2) rfl ?_
 rintro _ _ ⟨rfl, rfl⟩
 iterate 3 refine vp ?_
 refine vc_alloc [.bool false, .string ⟨#[]⟩, .int .u64 0] ze_45 rfl rfl (fun b9 => ?_)
 refine vc_storeP 0 rfl [_, _, _] [_, _, _] rfl rfl rfl sz_45 rfl rfl rfl ?_
 refine vp ?_
 refine vc_nil ?_
 refine vc_then ?_
 refine vc_seq ?_
 refine vc_region ?_
 refine vp ?_
 refine vp ?_
 refine vc_callv ca_97 (us := []) (vs := []) rfl [_, _] rfl [2, 2, 2] rfl (rfChain hb3 key) rfl ?_
 rintro _ _ ⟨rfl, rfl⟩
 refine vp ?_
 refine vc_callv ca_96 (us := []) (vs := []) rfl [_, _] rfl [2] rfl (Does.re (refAt_spec (onT_vis T key) (by rw [hch]; omega) (by rw [hch]; exact (ok.chain key).1) seq) (show _ = optVer (verAt (chainM X.M key) seq) by rw [hch])) rfl ?_
 rintro _ _ ⟨rfl, rfl⟩
 iterate 3 refine vp ?_
 refine vc_alloc [.int .i64 0, .bool false, .bool false, .string ⟨#[]⟩, .int .u64 0] ze_135 rfl rfl (fun b11 => ?_)
 refine vc_storeP 0 rfl [_, _, _, _, _] [_, _, _, _, _] rfl rfl rfl sz_135 rfl rfl rfl ?_
 refine vp ?_
 refine vc_nil ?_
 refine vc_then ?_
 refine vc_seq ?_
 refine vc_seq ?_
 refine vc_region ?_
 generalize verAt (chainM X.M key) seq = o
 refine vp ?_
 refine vp ?_
 refine vc_y (y_neB Tryz.underlying4 rfl rfl) rfl ?_
 refine vp ?_
 first | refine vc_splitP 38 rfl (fun c38 => ?_) (fun c38 => ?_) | refine vc_splitN 38 rfl (fun c38 => ?_) (fun c38 => ?_) | refine vc_split 38 rfl (fun c38 => ?_) (fun c38 => ?_)
 ·skip
  simp at c38
 ·skip
  refine vc_guardT 38 rfl rfl ?_
  refine vc_y (y_loadA 4 rfl (cs := [_, _, _]) ag_45 rfl (Pts.visA rfl)) rfl ?_
  refine vc_guardT 38 rfl rfl ?_
  refine vc_y (y_fieldP fl_135_2 2 rfl rfl) rfl ?_
  refine vc_guardT 38 rfl rfl ?_
  refine vc_y (y_loadA 0 rfl (cs := [_, _, _]) ag_45 rfl (Pts.visA rfl)) rfl ?_
  refine vc_guardT 38 rfl rfl ?_
  refine vc_y (y_neS eg_45 (eqv_45 _ _ _ _ _ _) rfl rfl) rfl ?_
  refine vp ?_
  refine vc_nil ?_
  refine vc_then ?_
  first | refine vc_condP rfl (fun c43 => ?_) (fun c43 => ?_) | refine vc_condN rfl (fun c43 => ?_) (fun c43 => ?_) | refine vc_cond rfl (fun c43 => ?_) (fun c43 => ?_)
  ·skip
   simp at c43
  ·skip
   refine vc_skip ?_
   refine vc_then ?_
   refine vc_seq ?_
   refine vc_seq ?_
   refine vc_region ?_
   refine vp ?_
   refine vc_nil ?_
   refine vc_then ?_
   refine vc_block ?_
   refine vc_loop (α := Nat) (fun xq_ => match xq_ with | i => [(0, .pointer (some ⟨b, 0, none⟩)), (1, .pointer (some ⟨bm, 0, none⟩)), (2, .string key), (3, .int .i64 seq), (13, .int .i64 (i : Int))]) (fun xq_ => match xq_ with | i => [RfP bm K hO, RoSl eOne hO T, RoM T, RoomC b X]) (fun xq_ => match xq_ with | i => 2 - i) (fun xq_ => match xq_ with | i => i ≤ 2) 0 (Nat.zero_le _) ⟨rfl, rfl, rfl, rfl, rfl, trivial⟩ (ent_pick [2, 2, 1, 2] rfl) ?_
   rintro i hi
   show VC _ _ _ _ [(0, .pointer (some ⟨b, 0, none⟩)), (1, .pointer (some ⟨bm, 0, none⟩)), (2, .string key), (3, .int .i64 seq), (13, .int .i64 (i : Int))] ([RfP bm K hO, RoSl eOne hO T, RoM T, RoomC b X])
   refine vc_seq ?_
   refine vc_seq ?_
   refine vc_region ?_
   refine vp ?_
   refine vp ?_
   refine vc_nil ?_
   refine vc_then ?_
   first | refine vc_condP rfl (fun c45 => ?_) (fun c45 => ?_) | refine vc_condN rfl (fun c45 => ?_) (fun c45 => ?_) | refine vc_cond rfl (fun c45 => ?_) (fun c45 => ?_)
   ·skip
    refine vc_skip ?_
    refine vc_then ?_
    refine vc_seq ?_
    refine vc_block ?_
    refine vc_seq ?_
    refine vc_region ?_
    iterate 5 refine vp ?_
    refine vc_callv ca_98 (us := []) (vs := []) rfl [_, _, _, _] rfl [0, 0, 0] rfl (Does.re (rfFrom hT key (decide ((i : Int) = 0)) seq) (show _ = Value.int .i64 (fromI key (decide ((i : Int) = 0)) seq X.M 0) by rw [H.m])) rfl ?_
    rintro _ _ ⟨rfl, rfl⟩
    refine vp ?_
    refine vc_nil ?_
    refine vc_then ?_
    refine vc_seq ?_
    refine vc_region ?_
    iterate 3 refine vp ?_
    refine vc_callv ca_20 (us := []) (vs := []) rfl [_, _, _] rfl [3] rfl (room_after ok key h2) rfl ?_
    rintro _ _ ⟨rfl, rfl⟩
    iterate 4 refine vp ?_
    refine vc_alloc [.bool false, .string ⟨#[]⟩, .int .u64 0] ze_45 rfl rfl (fun b16 => ?_)
    refine vp ?_
    refine vc_storeP 0 rfl [_, _, _] [_, _, _] rfl rfl rfl sz_45 rfl rfl rfl ?_
    refine vp ?_
    refine vc_nil ?_
    refine vc_then ?_
    refine vc_seq ?_
    refine vc_seq ?_
    refine vc_region ?_
    refine vp ?_
    refine vp ?_
    refine vc_nil ?_
    refine vc_then ?_
    first | refine vc_condP rfl (fun c63 => ?_) (fun c63 => ?_) | refine vc_condN rfl (fun c63 => ?_) (fun c63 => ?_) | refine vc_cond rfl (fun c63 => ?_) (fun c63 => ?_)
    ·skip
     have hd : decide ((i : Int) = 0) = false := decide_eq_false (by omega)
     rw [hd]
     have hfl := from_live ok.rise key false seq
     refine vc_region ?_
     iterate 3 refine vp ?_
     refine vc_callv ca_99 (us := []) (vs := []) rfl [_, _, _] rfl [1] rfl (room_seek ok key h2) rfl ?_
     rintro _ _ ⟨rfl, rfl⟩
     iterate 5 refine vp ?_
     refine vc_storeP 1 rfl [_, _, _] [_, _, _] rfl rfl rfl sz_45 rfl rfl rfl ?_
     refine vp ?_
     refine vc_nil ?_
     refine vc_then ?_
     refine vc_seq ?_
     refine vc_seq ?_
     refine vc_region ?_
     refine vp ?_
     refine vp ?_
     refine vc_nil ?_
     refine vc_then ?_
     first | refine vc_condP rfl (fun c73 => ?_) (fun c73 => ?_) | refine vc_condN rfl (fun c73 => ?_) (fun c73 => ?_) | refine vc_cond rfl (fun c73 => ?_) (fun c73 => ?_)
     ·skip
      obtain ⟨e1, e2⟩ := hfl.resolve_right (by rintro ⟨j, p, v, e1, _⟩; omega)
      rw [e2]
      refine vc_seq ?_
      refine vc_seq ?_
      refine vc_region ?_
      iterate 3 refine vp ?_
      first | refine vc_splitP 76 rfl (fun c76 => ?_) (fun c76 => ?_) | refine vc_splitN 76 rfl (fun c76 => ?_) (fun c76 => ?_) | refine vc_split 76 rfl (fun c76 => ?_) (fun c76 => ?_)
      ·skip
       simp [keyOf, sEq_self] at c76
      ·skip
       refine vc_guardT 76 rfl rfl ?_
       refine vc_y (y_loadA 1 rfl (cs := [_, _, _]) ag_45 rfl (Pts.visA rfl)) rfl ?_
       refine vc_guardT 76 rfl rfl ?_
       refine vc_y (y_build [] [_, _, _] rfl (bu_45_n  )) rfl ?_
       refine vc_guardT 76 rfl rfl ?_
       refine vc_y (y_neS eg_45 (eqv_45 _ _ _ _ _ _) rfl rfl) rfl ?_
       refine vp ?_
       refine vp ?_
       first | refine vc_splitP 81 rfl (fun c81 => ?_) (fun c81 => ?_) | refine vc_splitN 81 rfl (fun c81 => ?_) (fun c81 => ?_) | refine vc_split 81 rfl (fun c81 => ?_) (fun c81 => ?_)
       ·skip
        simp [valOf, val0] at c81
       ·skip
        refine vc_guardT 81 rfl rfl ?_
        refine vp ?_
        refine vp ?_
        refine vc_nil ?_
        refine vc_then ?_
        first | refine vc_condP rfl (fun c83 => ?_) (fun c83 => ?_) | refine vc_condN rfl (fun c83 => ?_) (fun c83 => ?_) | refine vc_cond rfl (fun c83 => ?_) (fun c83 => ?_)
        ·skip
         simp at c83
        ·skip
         refine vc_skip ?_
         refine vc_then ?_
         refine vc_exit ?_
         refine vc_thenExit ?_
         refine vc_inExit ?_
         refine vc_then ?_
         refine vc_region ?_
         refine vp ?_
         first | refine vc_y (y_arith _ rfl (wrapNadd (by omega))) rfl ?_ | refine vc_y (y_arith _ rfl (wrap64 (by omega) (by omega))) rfl ?_ | refine vp ?_
         refine vp ?_
         refine vc_nil ?_
         refine vc_then ?_
         exact vc_again (x := i) (i + 1) (by omega) (by show 2 - (i + 1) < 2 - i; omega) ⟨rfl, rfl, rfl, rfl, rfl, trivial⟩ (ent_pick [2, 2, 2, 0] rfl)
     ·skip
      obtain ⟨j, p, v, e1, hj, hv, e2⟩ := hfl.resolve_left (by rintro ⟨e1, _⟩; omega)
      rw [e1, e2]
      have hjT : j < T.length := by have := getLt hj; rwa [← H.m, mpT_length] at this
      obtain rfl : p = (T[j].1, T[j].2.2) := by
       rw [← H.m] at hj
       unfold mpT at hj
       rw [List.getElem?_map, List.getElem?_eq_getElem hjT] at hj
       exact (Option.some.inj hj).symm
      refine vc_skip ?_
      refine vc_then ?_
      refine vc_seq ?_
      refine vc_region ?_
      refine vp ?_
      refine vp ?_
      refine vc_y (y_fieldP fl_67_2 5 rfl rfl) rfl ?_
      refine vc_y (y_load1 2 rfl one_65 rfl (Pts.vis rfl)) rfl ?_
      refine vp ?_
      refine vc_y (y_elem 3 rfl (RoSl.vis) j rfl hjT sl_65 rfl rfl) rfl ?_
      refine vc_y (y_fieldE fl_152_1 1 rfl rfl) rfl ?_
      refine vc_y (y_load1 3 rfl one_138 rfl (Rd.vis1 (RoSl.vis) (List.getElem?_eq_getElem (by first | assumption | omega)) rfl)) rfl ?_
      refine vp ?_
      refine vc_callv ca_96 (us := []) (vs := []) rfl [_, _] rfl [4] rfl (Does.re (refAt_spec (RoM.vis (List.getElem_mem hjT)) (by have := hT.len _ (List.getElem_mem hjT); omega) (hT.c _ (List.getElem_mem hjT)) seq) (show _ = optVer (some v) by rw [hv])) rfl ?_
      rintro _ _ ⟨rfl, rfl⟩
      iterate 3 refine vp ?_
      refine vc_alloc [.int .i64 0, .bool false, .bool false, .string ⟨#[]⟩, .int .u64 0] ze_135 rfl rfl (fun b18 => ?_)
      refine vc_storeP 0 rfl [_, _, _, _, _] [_, _, _, _, _] rfl rfl rfl sz_135 rfl rfl rfl ?_
      refine vp ?_
      refine vc_nil ?_
      refine vc_then ?_
      refine vc_seq ?_
      refine vc_region ?_
      iterate 3 refine vp ?_
      refine vc_y (y_fieldP fl_67_2 5 rfl rfl) rfl ?_
      refine vc_y (y_load1 4 rfl one_65 rfl (Pts.vis rfl)) rfl ?_
      refine vp ?_
      refine vc_y (y_elem 5 rfl (RoSl.vis) j rfl hjT sl_65 rfl rfl) rfl ?_
      refine vc_y (y_fieldE fl_152_0 0 rfl rfl) rfl ?_
      refine vc_y (y_load1 5 rfl one_9 rfl (Rd.vis1 (RoSl.vis) (List.getElem?_eq_getElem (by first | assumption | omega)) rfl)) rfl ?_
      refine vp ?_
      refine vp ?_
      first | refine vc_splitP 107 rfl (fun c107 => ?_) (fun c107 => ?_) | refine vc_splitN 107 rfl (fun c107 => ?_) (fun c107 => ?_) | refine vc_split 107 rfl (fun c107 => ?_) (fun c107 => ?_)
      ·skip
       simp [keyOf, sEq_self] at c107
      ·skip
       refine vc_guardT 107 rfl rfl ?_
       refine vc_y (y_loadA 3 rfl (cs := [_, _, _]) ag_45 rfl (Pts.visA rfl)) rfl ?_
       refine vc_guardT 107 rfl rfl ?_
       refine vc_y (y_fieldP fl_135_2 2 rfl rfl) rfl ?_
       refine vc_guardT 107 rfl rfl ?_
       refine vc_y (y_loadA 0 rfl (cs := [_, _, _]) ag_45 rfl (Pts.visA rfl)) rfl ?_
       refine vc_guardT 107 rfl rfl ?_
       refine vc_y (y_neS eg_45 (eqv_45 _ _ _ _ _ _) rfl rfl) rfl ?_
       refine vp ?_
       refine vp ?_
       first | refine vc_splitP 113 rfl (fun c113 => ?_) (fun c113 => ?_) | refine vc_splitN 113 rfl (fun c113 => ?_) (fun c113 => ?_) | refine vc_split 113 rfl (fun c113 => ?_) (fun c113 => ?_)
       ·skip
        simp [valOf] at c113
       ·skip
        refine vc_guardT 113 rfl rfl ?_
        refine vp ?_
        refine vc_guardT 113 rfl rfl ?_
        refine vp ?_
        refine vp ?_
        refine vc_nil ?_
        refine vc_then ?_
        first | refine vc_condP rfl (fun c116 => ?_) (fun c116 => ?_) | refine vc_condN rfl (fun c116 => ?_) (fun c116 => ?_) | refine vc_cond rfl (fun c116 => ?_) (fun c116 => ?_)
        ·skip
         simp at c116
        ·skip
         refine vc_skip ?_
         refine vc_inNormal ?_
         refine vc_then ?_
         refine vc_region ?_
         refine vp ?_
         first | refine vc_y (y_arith _ rfl (wrapNadd (by omega))) rfl ?_ | refine vc_y (y_arith _ rfl (wrap64 (by omega) (by omega))) rfl ?_ | refine vp ?_
         refine vp ?_
         refine vc_nil ?_
         refine vc_then ?_
         exact vc_again (x := i) (i + 1) (by omega) (by show 2 - (i + 1) < 2 - i; omega) ⟨rfl, rfl, rfl, rfl, rfl, trivial⟩ (ent_pick [4, 4, 1, 1] rfl)
    ·skip
     have hd : decide ((i : Int) = 0) = true := decide_eq_true (by omega)
     rw [hd]
     have hfl := from_live ok.rise key true seq
     refine vc_skip ?_
     refine vc_then ?_
     refine vc_seq ?_
     refine vc_seq ?_
     refine vc_region ?_
     refine vp ?_
     refine vp ?_
     refine vc_nil ?_
     refine vc_then ?_
     first | refine vc_condP rfl (fun c73 => ?_) (fun c73 => ?_) | refine vc_condN rfl (fun c73 => ?_) (fun c73 => ?_) | refine vc_cond rfl (fun c73 => ?_) (fun c73 => ?_)
     ·skip
      obtain ⟨e1, e2⟩ := hfl.resolve_right (by rintro ⟨j, p, v, e1, _⟩; omega)
      rw [e2]
      refine vc_seq ?_
      refine vc_seq ?_
      refine vc_region ?_
      iterate 3 refine vp ?_
      first | refine vc_splitP 76 rfl (fun c76 => ?_) (fun c76 => ?_) | refine vc_splitN 76 rfl (fun c76 => ?_) (fun c76 => ?_) | refine vc_split 76 rfl (fun c76 => ?_) (fun c76 => ?_)
      ·skip
       simp [keyOf, sEq_self] at c76
      ·skip
       refine vc_guardT 76 rfl rfl ?_
       refine vc_y (y_loadA 0 rfl (cs := [_, _, _]) ag_45 rfl (Pts.visA rfl)) rfl ?_
       refine vc_guardT 76 rfl rfl ?_
       refine vc_y (y_build [] [_, _, _] rfl (bu_45_n  )) rfl ?_
       refine vc_guardT 76 rfl rfl ?_
       refine vc_y (y_neS eg_45 (eqv_45 _ _ _ _ _ _) rfl rfl) rfl ?_
       refine vp ?_
       refine vp ?_
       first | refine vc_splitP 81 rfl (fun c81 => ?_) (fun c81 => ?_) | refine vc_splitN 81 rfl (fun c81 => ?_) (fun c81 => ?_) | refine vc_split 81 rfl (fun c81 => ?_) (fun c81 => ?_)
       ·skip
        simp [valOf, val0] at c81
       ·skip
        refine vc_guardT 81 rfl rfl ?_
        refine vp ?_
        refine vp ?_
        refine vc_nil ?_
        refine vc_then ?_
        first | refine vc_condP rfl (fun c83 => ?_) (fun c83 => ?_) | refine vc_condN rfl (fun c83 => ?_) (fun c83 => ?_) | refine vc_cond rfl (fun c83 => ?_) (fun c83 => ?_)
        ·skip
         simp at c83
        ·skip
         refine vc_skip ?_
         refine vc_then ?_
         refine vc_exit ?_
         refine vc_thenExit ?_
         refine vc_inExit ?_
         refine vc_then ?_
         refine vc_region ?_
         refine vp ?_
         first | refine vc_y (y_arith _ rfl (wrapNadd (by omega))) rfl ?_ | refine vc_y (y_arith _ rfl (wrap64 (by omega) (by omega))) rfl ?_ | refine vp ?_
         refine vp ?_
         refine vc_nil ?_
         refine vc_then ?_
         exact vc_again (x := i) (i + 1) (by omega) (by show 2 - (i + 1) < 2 - i; omega) ⟨rfl, rfl, rfl, rfl, rfl, trivial⟩ (ent_pick [2, 2, 2, 1] rfl)
     ·skip
      obtain ⟨j, p, v, e1, hj, hv, e2⟩ := hfl.resolve_left (by rintro ⟨e1, _⟩; omega)
      rw [e1, e2]
      have hjT : j < T.length := by have := getLt hj; rwa [← H.m, mpT_length] at this
      obtain rfl : p = (T[j].1, T[j].2.2) := by
       rw [← H.m] at hj
       unfold mpT at hj
       rw [List.getElem?_map, List.getElem?_eq_getElem hjT] at hj
       exact (Option.some.inj hj).symm
      refine vc_skip ?_
      refine vc_then ?_
      refine vc_seq ?_
      refine vc_region ?_
      refine vp ?_
      refine vp ?_
      refine vc_y (y_fieldP fl_67_2 5 rfl rfl) rfl ?_
      refine vc_y (y_load1 2 rfl one_65 rfl (Pts.vis rfl)) rfl ?_
      refine vp ?_
      refine vc_y (y_elem 3 rfl (RoSl.vis) j rfl hjT sl_65 rfl rfl) rfl ?_
      refine vc_y (y_fieldE fl_152_1 1 rfl rfl) rfl ?_
      refine vc_y (y_load1 3 rfl one_138 rfl (Rd.vis1 (RoSl.vis) (List.getElem?_eq_getElem (by first | assumption | omega)) rfl)) rfl ?_
      refine vp ?_
      refine vc_callv ca_96 (us := []) (vs := []) rfl [_, _] rfl [4] rfl (Does.re (refAt_spec (RoM.vis (List.getElem_mem hjT)) (by have := hT.len _ (List.getElem_mem hjT); omega) (hT.c _ (List.getElem_mem hjT)) seq) (show _ = optVer (some v) by rw [hv])) rfl ?_
      rintro _ _ ⟨rfl, rfl⟩
      iterate 3 refine vp ?_
      refine vc_alloc [.int .i64 0, .bool false, .bool false, .string ⟨#[]⟩, .int .u64 0] ze_135 rfl rfl (fun b18 => ?_)
      refine vc_storeP 0 rfl [_, _, _, _, _] [_, _, _, _, _] rfl rfl rfl sz_135 rfl rfl rfl ?_
      refine vp ?_
      refine vc_nil ?_
      refine vc_then ?_
      refine vc_seq ?_
      refine vc_region ?_
      iterate 3 refine vp ?_
      refine vc_y (y_fieldP fl_67_2 5 rfl rfl) rfl ?_
      refine vc_y (y_load1 4 rfl one_65 rfl (Pts.vis rfl)) rfl ?_
      refine vp ?_
      refine vc_y (y_elem 5 rfl (RoSl.vis) j rfl hjT sl_65 rfl rfl) rfl ?_
      refine vc_y (y_fieldE fl_152_0 0 rfl rfl) rfl ?_
      refine vc_y (y_load1 5 rfl one_9 rfl (Rd.vis1 (RoSl.vis) (List.getElem?_eq_getElem (by first | assumption | omega)) rfl)) rfl ?_
      refine vp ?_
      refine vp ?_
      first | refine vc_splitP 107 rfl (fun c107 => ?_) (fun c107 => ?_) | refine vc_splitN 107 rfl (fun c107 => ?_) (fun c107 => ?_) | refine vc_split 107 rfl (fun c107 => ?_) (fun c107 => ?_)
      ·skip
       simp [keyOf, sEq_self] at c107
      ·skip
       refine vc_guardT 107 rfl rfl ?_
       refine vc_y (y_loadA 2 rfl (cs := [_, _, _]) ag_45 rfl (Pts.visA rfl)) rfl ?_
       refine vc_guardT 107 rfl rfl ?_
       refine vc_y (y_fieldP fl_135_2 2 rfl rfl) rfl ?_
       refine vc_guardT 107 rfl rfl ?_
       refine vc_y (y_loadA 0 rfl (cs := [_, _, _]) ag_45 rfl (Pts.visA rfl)) rfl ?_
       refine vc_guardT 107 rfl rfl ?_
       refine vc_y (y_neS eg_45 (eqv_45 _ _ _ _ _ _) rfl rfl) rfl ?_
       refine vp ?_
       refine vp ?_
       first | refine vc_splitP 113 rfl (fun c113 => ?_) (fun c113 => ?_) | refine vc_splitN 113 rfl (fun c113 => ?_) (fun c113 => ?_) | refine vc_split 113 rfl (fun c113 => ?_) (fun c113 => ?_)
       ·skip
        simp [valOf] at c113
       ·skip
        refine vc_guardT 113 rfl rfl ?_
        refine vp ?_
        refine vc_guardT 113 rfl rfl ?_
        refine vp ?_
        refine vp ?_
        refine vc_nil ?_
        refine vc_then ?_
        first | refine vc_condP rfl (fun c116 => ?_) (fun c116 => ?_) | refine vc_condN rfl (fun c116 => ?_) (fun c116 => ?_) | refine vc_cond rfl (fun c116 => ?_) (fun c116 => ?_)
        ·skip
         simp at c116
        ·skip
         refine vc_skip ?_
         refine vc_inNormal ?_
         refine vc_then ?_
         refine vc_region ?_
         refine vp ?_
         first | refine vc_y (y_arith _ rfl (wrapNadd (by omega))) rfl ?_ | refine vc_y (y_arith _ rfl (wrap64 (by omega) (by omega))) rfl ?_ | refine vp ?_
         refine vp ?_
         refine vc_nil ?_
         refine vc_then ?_
         exact vc_again (x := i) (i + 1) (by omega) (by show 2 - (i + 1) < 2 - i; omega) ⟨rfl, rfl, rfl, rfl, rfl, trivial⟩ (ent_pick [4, 4, 1, 2] rfl)
   ·skip
    refine vc_exit ?_
    refine vc_thenExit ?_
    refine vc_thenExit ?_
    refine vc_inExit ?_
    refine vc_then ?_
    refine vc_seq ?_
    refine vc_region ?_
    refine vp ?_
    refine vc_nil ?_
    refine vc_then ?_
    refine vc_ret ?_
    exact vc_end1 Tryz.results36 rfl _ (ent_pick [0, 0, 0, 0] rfl) ⟨rfl, rfl⟩
theorem Does.frame {P : Program} {f : FuncId} {args : List Value} {l : List HP} {Post : Value → List HP → Prop} (r : List HP) (h : Does P f args l Post) : Does P f args (l ++ r) (fun v l' => ∃ l2, Post v l2 ∧ l' = l2 ++ r) := fun ι F w hw =>
 (h ι (sep (seps r) F) w ((hw.ent (Ent.sep Ent.append Ent.rfl)).ent Ent.assoc)).mono fun _ _ ⟨v, l', hp, e, hw'⟩ => ⟨v, l' ++ r, ⟨l', hp, rfl⟩, e, (hw'.ent Ent.assoc').ent (Ent.sep Ent.append' Ent.rfl)⟩
section
variable {b bm : Nat} {X : RmX}
theorem told_spec (ok : X.ok) (key : ByteArray) {seq : Int} (h2 : seq ≤ 9223372036854775807) : Does Tryz.prog 36 [.pointer (some ⟨b, 0, none⟩), .pointer (some ⟨bm, 0, none⟩), .string key, .int .i64 seq] [RoomC b X, RefC bm X] (fun v l => v = .bool true ∧ l = [RoomC b X, RefC bm X]) := by
 refine Does.pre (l' := [RefC bm X, RoomC b X]) (ent_pick [1, 0] rfl) ?_
 refine ref_does (r := [RoomC b X]) fun I H => ?_
 refine Does.pre (l' := [RfP bm I.K I.hO, RoSl eOne I.hO I.T, RoM I.T, RoomC b X] ++ [RgP I.K.bG I.K.ring X.R.begin I.hS, Sl eU64 I.hS I.L]) (ent_pick [0, 0, 0, 2, 0, 0] rfl) ?_
 refine Does.fin (Does.frame _ (told0 H key h2)) ?_
 rintro v l ⟨l2, ⟨rfl, rfl⟩, rfl⟩
 exact ⟨_, (ent_at [0, 0, 0, 1, 1, 0] rfl (ent_Rf (b := bm) H (r := [RoomC b X]))).trans (ent_pick [1, 0] rfl), rfl, rfl⟩
theorem ref_seq : Does Tryz.prog 37 [.pointer (some ⟨bm, 0, none⟩)] [RefC bm X] (fun v l => v = .int .i64 X.R.seq ∧ l = [RefC bm X]) := by
 refine ref_does (r := []) fun I H => ?_
 refine Does.pre (l' := [RfP bm I.K I.hO, RgP I.K.bG I.K.ring X.R.begin I.hS, Sl eU64 I.hS I.L] ++ [RoSl eOne I.hO I.T, RoM I.T]) (ent_pick [0, 2, 2, 0, 0] rfl) ?_
 refine Does.fin (Does.frame _ (rfSeq H.hq)) ?_
 rintro v l ⟨l2, ⟨rfl, rfl⟩, rfl⟩
 exact ⟨_, ent_at [0, 2, 2, 0, 0] rfl (ent_Rf0 H), by rw [H.seq], rfl⟩
theorem ref_floor : Does Tryz.prog 90 [.pointer (some ⟨bm, 0, none⟩)] [RefC bm X] (fun v l => v = .int .i64 X.R.floor ∧ l = [RefC bm X]) := by
 refine ref_does (r := []) fun I H => ?_
 refine Does.pre (l' := [RfP bm I.K I.hO, RgP I.K.bG I.K.ring X.R.begin I.hS, Sl eU64 I.hS I.L] ++ [RoSl eOne I.hO I.T, RoM I.T]) (ent_pick [0, 2, 2, 0, 0] rfl) ?_
 refine Does.fin (Does.frame _ (rfFloor H.hq (by rw [H.ring]; exact H.ok.r1))) ?_
 rintro v l ⟨l2, ⟨rfl, rfl⟩, rfl⟩
 exact ⟨_, ent_at [0, 2, 2, 0, 0] rfl (ent_Rf0 H), by rw [H.floor], rfl⟩
theorem ref_live : Does Tryz.prog 89 [.pointer (some ⟨bm, 0, none⟩)] [RefC bm X] (fun v l => v = .int .i64 (liveM X.M) ∧ l = [RefC bm X]) := by
 refine ref_does (r := []) fun I H => ?_
 refine Does.pre (l' := RfL bm I.K I.hO I.T ++ [RgP I.K.bG I.K.ring X.R.begin I.hS, Sl eU64 I.hS I.L]) (ent_pick [0, 0, 0, 0, 0] rfl) ?_
 refine Does.fin (Does.frame _ (rfLive (H.ok.tok H.m))) ?_
 rintro v l ⟨l2, ⟨rfl, rfl⟩, rfl⟩
 exact ⟨_, ent_Rf0 H, by rw [H.m], rfl⟩
theorem ref_vers : Does Tryz.prog 91 [.pointer (some ⟨bm, 0, none⟩)] [RefC bm X] (fun v l => v = .int .i64 (versM X.M) ∧ l = [RefC bm X]) := by
 refine ref_does (r := []) fun I H => ?_
 refine Does.pre (l' := RfL bm I.K I.hO I.T ++ [RgP I.K.bG I.K.ring X.R.begin I.hS, Sl eU64 I.hS I.L]) (ent_pick [0, 0, 0, 0, 0] rfl) ?_
 refine Does.fin (Does.frame _ (rfVers (H.ok.tok H.m))) ?_
 rintro v l ⟨l2, ⟨rfl, rfl⟩, rfl⟩
 exact ⟨_, ent_Rf0 H, by rw [H.m], rfl⟩
end
theorem counts_spec {b bm : Nat} {X : RmX} (ok : X.ok) : Does Tryz.prog 29 [.pointer (some ⟨b, 0, none⟩), .pointer (some ⟨bm, 0, none⟩)] [RoomC b X, RefC bm X] (fun v l => v = .bool true ∧ l = [RoomC b X, RefC bm X]) := by
 refine spec_of Tryz.func29 rfl Tryz.ntmps29 Tryz.results29 _ (by simp) fun ι F => ?_
 have hcn := count_ent ok
 refine vc_seq ?_
 refine vc_region ?_
 refine vp ?_
 refine vc_nil ?_
 refine vc_then ?_
 refine vc_seq ?_
 refine vc_region ?_
 refine vp ?_
 refine vc_callv ca_16 (us := []) (vs := []) rfl [_] rfl [0] rfl (room_seq ok) rfl ?_
 rintro _ _ ⟨rfl, rfl⟩
 refine vp ?_
 refine vc_callv ca_37 (us := []) (vs := []) rfl [_] rfl [1] rfl (ref_seq) rfl ?_
 rintro _ _ ⟨rfl, rfl⟩
 refine vp ?_
 refine vp ?_
 first | refine vc_splitP 10 rfl (fun c10 => ?_) (fun c10 => ?_) | refine vc_splitN 10 rfl (fun c10 => ?_) (fun c10 => ?_) | refine vc_split 10 rfl (fun c10 => ?_) (fun c10 => ?_)
 ·skip
  refine vc_guardT 10 rfl rfl ?_
  refine vp ?_
  refine vc_guardT 10 rfl rfl ?_
  refine vc_callv ca_18 (us := []) (vs := []) rfl [_] rfl [1] rfl (room_floor ok) rfl ?_
  rintro _ _ ⟨rfl, rfl⟩
  refine vc_guardT 10 rfl rfl ?_
  refine vp ?_
  refine vc_guardT 10 rfl rfl ?_
  refine vc_callv ca_90 (us := []) (vs := []) rfl [_] rfl [1] rfl (ref_floor) rfl ?_
  rintro _ _ ⟨rfl, rfl⟩
  refine vc_guardT 10 rfl rfl ?_
  iterate 3 refine vp ?_
  first | refine vc_splitP 17 rfl (fun c17 => ?_) (fun c17 => ?_) | refine vc_splitN 17 rfl (fun c17 => ?_) (fun c17 => ?_) | refine vc_split 17 rfl (fun c17 => ?_) (fun c17 => ?_)
  ·skip
   refine vc_guardT 17 rfl rfl ?_
   refine vp ?_
   refine vc_guardT 17 rfl rfl ?_
   refine vc_callv ca_22 (us := []) (vs := []) rfl [_] rfl [1] rfl (room_live ok) rfl ?_
   rintro _ _ ⟨rfl, rfl⟩
   refine vc_guardT 17 rfl rfl ?_
   refine vp ?_
   refine vc_guardT 17 rfl rfl ?_
   refine vc_callv ca_89 (us := []) (vs := []) rfl [_] rfl [1] rfl (ref_live) rfl ?_
   rintro _ _ ⟨rfl, rfl⟩
   refine vc_guardT 17 rfl rfl ?_
   iterate 3 refine vp ?_
   first | refine vc_splitP 24 rfl (fun c24 => ?_) (fun c24 => ?_) | refine vc_splitN 24 rfl (fun c24 => ?_) (fun c24 => ?_) | refine vc_split 24 rfl (fun c24 => ?_) (fun c24 => ?_)
   ·skip
    refine vc_guardT 24 rfl rfl ?_
    refine vp ?_
    refine vc_guardT 24 rfl rfl ?_
    refine vc_callv ca_24 (us := []) (vs := []) rfl [_] rfl [1] rfl (room_vers ok) rfl ?_
    rintro _ _ ⟨rfl, rfl⟩
    refine vc_guardT 24 rfl rfl ?_
    refine vp ?_
    refine vc_guardT 24 rfl rfl ?_
    refine vc_callv ca_91 (us := []) (vs := []) rfl [_] rfl [1] rfl (ref_vers) rfl ?_
    rintro _ _ ⟨rfl, rfl⟩
    refine vc_guardT 24 rfl rfl ?_
    iterate 3 refine vp ?_
    first | refine vc_splitP 31 rfl (fun c31 => ?_) (fun c31 => ?_) | refine vc_splitN 31 rfl (fun c31 => ?_) (fun c31 => ?_) | refine vc_split 31 rfl (fun c31 => ?_) (fun c31 => ?_)
    ·skip
     refine vc_guardT 31 rfl rfl ?_
     refine vp ?_
     refine vc_guardT 31 rfl rfl ?_
     refine vc_callv ca_23 (us := []) (vs := []) rfl [_] rfl [1] rfl (room_keys ok) rfl ?_
     rintro _ _ ⟨rfl, rfl⟩
     refine vc_guardT 31 rfl rfl ?_
     refine vp ?_
     refine vc_guardT 31 rfl rfl ?_
     refine vc_callv ca_92 (us := []) (vs := []) rfl [_] rfl [1] rfl (ref_entries ok) rfl ?_
     rintro _ _ ⟨g1, rfl, rfl⟩
     refine vc_see 1 rfl (Sl.vis.imp fun w r => r.len) (fun hl1 => ?_)
     refine vc_guardT 31 rfl rfl ?_
     refine vc_y (y_len Tryz.underlying52 rfl (by first | assumption | rfl)) rfl ?_
     refine vc_guardT 31 rfl rfl ?_
     iterate 3 refine vp ?_
     first | refine vc_splitP 39 rfl (fun c39 => ?_) (fun c39 => ?_) | refine vc_splitN 39 rfl (fun c39 => ?_) (fun c39 => ?_) | refine vc_split 39 rfl (fun c39 => ?_) (fun c39 => ?_)
     ·skip
      refine vc_guardT 39 rfl rfl ?_
      refine vp ?_
      refine vc_guardT 39 rfl rfl ?_
      refine vc_callv ca_26 (us := []) (vs := []) rfl [_] rfl [2] rfl (room_entries ok) rfl ?_
      rintro _ _ ⟨g2, rfl, rfl⟩
      refine vc_guardT 39 rfl rfl ?_
      refine vp ?_
      refine vc_guardT 39 rfl rfl ?_
      refine vc_callv ca_92 (us := []) (vs := []) rfl [_] rfl [2] rfl (ref_entries ok) rfl ?_
      rintro _ _ ⟨g3, rfl, rfl⟩
      refine vc_guardT 39 rfl rfl ?_
      refine vc_callv ca_25 (us := []) (vs := []) rfl [_, _] rfl [3, 1] rfl (refSame_spec Sl.vis Sl.vis (by have h1 := ok.le; have h2 := List.length_filterMap_le (en1 X.R.seq) X.M; unfold entM; omega)) rfl ?_
      rintro _ _ ⟨rfl, rfl⟩
      refine vp ?_
      refine vp ?_
      refine vc_nil ?_
      refine vc_then ?_
      refine vc_ret ?_
      exact vc_end1 Tryz.results29 rfl _ (ent_pick [3, 2] rfl) ⟨rfl, rfl⟩
     ·skip
      exact absurd hcn c39
    ·skip
     exact absurd rfl c31
   ·skip
    exact absurd rfl c24
  ·skip
   exact absurd rfl c17
 ·skip
  exact absurd rfl c10
theorem cmpL_self {A B : HP} {h g : SH} {xs : List Int} (hv : Vis A (Rd eU64 h xs)) (hv2 : Vis B (Rd eU64 g xs)) (hb : xs.length ≤ 1000000) : Does Tryz.prog 102 [h.v, g.v] [A, B] (fun v l => v = .int .i64 0 ∧ l = [A, B]) := by
 refine spec_of Tryz.func102 rfl Tryz.ntmps102 Tryz.results102 _ (by simp) fun ι F => ?_
 refine vc_see 0 rfl (hv.imp fun w r => r.len) (fun hlen => ?_)
 refine vc_see 1 rfl (hv2.imp fun w r => r.len) (fun hlen2 => ?_)
 refine vc_seq ?_
 refine vc_region ?_
 refine vp ?_
 refine vc_nil ?_
 refine vc_then ?_
 refine vc_seq ?_
 refine vc_seq ?_
 refine vc_region ?_
 refine vp ?_
 refine vc_y (y_len Tryz.underlying22 rfl (by first | assumption | rfl)) rfl ?_
 refine vp ?_
 refine vc_y (y_len Tryz.underlying22 rfl (by first | assumption | rfl)) rfl ?_
 refine vp ?_
 refine vc_nil ?_
 refine vc_then ?_
 first | refine vc_condP rfl (fun c10 => ?_) (fun c10 => ?_) | refine vc_condN rfl (fun c10 => ?_) (fun c10 => ?_) | refine vc_cond rfl (fun c10 => ?_) (fun c10 => ?_)
 ·skip
  omega
 ·skip
  refine vc_skip ?_
  refine vc_then ?_
  refine vc_seq ?_
  refine vc_seq ?_
  refine vc_region ?_
  refine vp ?_
  refine vc_y (y_len Tryz.underlying22 rfl (by first | assumption | rfl)) rfl ?_
  refine vp ?_
  refine vc_y (y_len Tryz.underlying22 rfl (by first | assumption | rfl)) rfl ?_
  refine vp ?_
  refine vc_nil ?_
  refine vc_then ?_
  first | refine vc_condP rfl (fun c15 => ?_) (fun c15 => ?_) | refine vc_condN rfl (fun c15 => ?_) (fun c15 => ?_) | refine vc_cond rfl (fun c15 => ?_) (fun c15 => ?_)
  ·skip
   omega
  ·skip
   refine vc_skip ?_
   refine vc_then ?_
   refine vc_seq ?_
   refine vc_seq ?_
   refine vc_region ?_
   refine vp ?_
   refine vc_nil ?_
   refine vc_then ?_
   refine vc_block ?_
   refine vc_loop (α := Nat) (fun xq_ => match xq_ with | i => [(0, h.v), (1, g.v), (5, .int .i64 (i : Int))]) (fun xq_ => match xq_ with | i => [A, B]) (fun xq_ => match xq_ with | i => xs.length - i) (fun xq_ => match xq_ with | i => i ≤ xs.length) 0 (Nat.zero_le _) ⟨rfl, rfl, rfl, trivial⟩ (ent_pick [0, 0] rfl) ?_
   rintro i hi
   show VC _ _ _ _ [(0, h.v), (1, g.v), (5, .int .i64 (i : Int))] ([A, B])
   refine vc_seq ?_
   refine vc_seq ?_
   refine vc_region ?_
   refine vp ?_
   refine vp ?_
   refine vc_y (y_len Tryz.underlying22 rfl (by first | assumption | rfl)) rfl ?_
   refine vp ?_
   refine vc_nil ?_
   refine vc_then ?_
   first | refine vc_condP rfl (fun c19 => ?_) (fun c19 => ?_) | refine vc_condN rfl (fun c19 => ?_) (fun c19 => ?_) | refine vc_cond rfl (fun c19 => ?_) (fun c19 => ?_)
   ·skip
    have hi2 : i < xs.length := by omega
    refine vc_skip ?_
    refine vc_then ?_
    refine vc_seq ?_
    refine vc_block ?_
    refine vc_seq ?_
    refine vc_seq ?_
    refine vc_draw (by kernel_rfl) _ none [0, 0] rfl ?_
    refine tpp 0 ?_
    refine tpp 1 ?_
    refine tk 2 rfl (by exact y_elem 0 rfl (hv) i rfl hi2 sl_22 rfl rfl) ?_
    refine tk 3 rfl (by exact y_load1 0 rfl one_34 rfl (Rd.vis1 (hv) (List.getElem?_eq_getElem (by first | assumption | omega)) rfl)) ?_
    refine tpp 4 ?_
    refine tpp 5 ?_
    refine tk 6 rfl (by exact y_elem 1 rfl (hv2) i rfl hi2 sl_22 rfl rfl) ?_
    refine tk 7 rfl (by exact y_load1 1 rfl one_34 rfl (Rd.vis1 (hv2) (List.getElem?_eq_getElem (by first | assumption | omega)) rfl)) ?_
    refine tpp 8 ?_
    refine va_done (by kernel_rfl) ?_
    refine vc_then ?_
    first | refine vc_condP rfl (fun c30 => ?_) (fun c30 => ?_) | refine vc_condN rfl (fun c30 => ?_) (fun c30 => ?_) | refine vc_cond rfl (fun c30 => ?_) (fun c30 => ?_)
    ·skip
     omega
    ·skip
     refine vc_skip ?_
     refine vc_then ?_
     refine vc_seq ?_
     refine vc_draw (by kernel_rfl) _ none [0, 0] rfl ?_
     refine tpp 0 ?_
     refine tpp 1 ?_
     refine tk 2 rfl (by exact y_elem 0 rfl (hv) i rfl hi2 sl_22 rfl rfl) ?_
     refine tk 3 rfl (by exact y_load1 0 rfl one_34 rfl (Rd.vis1 (hv) (List.getElem?_eq_getElem (by first | assumption | omega)) rfl)) ?_
     refine tpp 4 ?_
     refine tpp 5 ?_
     refine tk 6 rfl (by exact y_elem 1 rfl (hv2) i rfl hi2 sl_22 rfl rfl) ?_
     refine tk 7 rfl (by exact y_load1 1 rfl one_34 rfl (Rd.vis1 (hv2) (List.getElem?_eq_getElem (by first | assumption | omega)) rfl)) ?_
     refine tpp 8 ?_
     refine va_done (by kernel_rfl) ?_
     refine vc_then ?_
     first | refine vc_condP rfl (fun c39 => ?_) (fun c39 => ?_) | refine vc_condN rfl (fun c39 => ?_) (fun c39 => ?_) | refine vc_cond rfl (fun c39 => ?_) (fun c39 => ?_)
     ·skip
      omega
     ·skip
      refine vc_skip ?_
      refine vc_inNormal ?_
      refine vc_then ?_
      refine vc_region ?_
      refine vp ?_
      first | refine vc_y (y_arith _ rfl (wrapNadd (by omega))) rfl ?_ | refine vc_y (y_arith _ rfl (wrap64 (by omega) (by omega))) rfl ?_ | refine vp ?_
      refine vp ?_
      refine vc_nil ?_
      refine vc_then ?_
      exact vc_again (x := i) (i + 1) hi2 (by show xs.length - (i + 1) < xs.length - i; omega) ⟨rfl, rfl, rfl, trivial⟩ (ent_pick [0, 0] rfl)
   ·skip
    refine vc_exit ?_
    refine vc_thenExit ?_
    refine vc_thenExit ?_
    refine vc_inExit ?_
    refine vc_then ?_
    refine vc_seq ?_
    refine vc_region ?_
    refine vp ?_
    refine vc_nil ?_
    refine vc_then ?_
    refine vc_ret ?_
    exact vc_end1 Tryz.results102 rfl _ (ent_pick [0, 0] rfl) ⟨rfl, rfl⟩
theorem sameL_spec {A B : HP} {h g : SH} {xs : List Int} (hv : Vis A (Rd eU64 h xs)) (hv2 : Vis B (Rd eU64 g xs)) (hb : xs.length ≤ 1000000) : Does Tryz.prog 39 [h.v, g.v] [A, B] (fun v l => v = .bool true ∧ l = [A, B]) := by
 refine spec_of Tryz.func39 rfl Tryz.ntmps39 Tryz.results39 _ (by simp) fun ι F => ?_
 refine vc_seq ?_
 refine vc_region ?_
 refine vp ?_
 refine vc_nil ?_
 refine vc_then ?_
 refine vc_seq ?_
 refine vc_region ?_
 refine vp ?_
 refine vp ?_
 refine vc_callv ca_102 (us := []) (vs := []) rfl [_, _] rfl [0, 0] rfl (cmpL_self hv hv2 hb) rfl ?_
 rintro _ _ ⟨rfl, rfl⟩
 refine vp ?_
 refine vp ?_
 refine vc_nil ?_
 refine vc_then ?_
 refine vc_ret ?_
 exact vc_end1 Tryz.results39 rfl _ (ent_pick [0, 0] rfl) ⟨rfl, rfl⟩
end Go.Proofs.YtcpbibdbahfgaaaGreat
/-
 Layer 11: whatever is committed, asked and swept.
-/
set_option linter.unusedVariables false
set_option linter.unusedSimpArgs false
set_option autoImplicit false
set_option maxHeartbeats 4000000
namespace Go.Proofs.YtcpbibdbahfgaaaGreat
open Go.Eng
namespace FLaw11c
theorem ca_10 : Callable Tryz.prog 10 := ⟨_, _, Tryz.func10, rfl, rfl⟩
theorem fl_24_0 : Fld Tryz.prog 24 0 0 := ⟨_, _, 0, Tryz.underlying24, rfl, rfl, by kernel_rfl⟩
theorem one_22 : TyOne Tryz.prog 22 := ⟨⟨_, Tryz.underlying22, rfl⟩, by kernel_rfl⟩
theorem ag_24 : TyAgg Tryz.prog 24 4 := ⟨⟨_, Tryz.underlying24, rfl⟩, by kernel_rfl⟩
theorem ca_11 : Callable Tryz.prog 11 := ⟨_, _, Tryz.func11, rfl, rfl⟩
theorem ca_30 : Callable Tryz.prog 30 := ⟨_, _, Tryz.func30, rfl, rfl⟩
theorem ca_31 : Callable Tryz.prog 31 := ⟨_, _, Tryz.func31, rfl, rfl⟩
theorem ep_28 : Tryz.prog.underlying 28 = some (.pointer (Tryz.prog.pointee 28)) := by kernel_rfl
theorem ca_12 : Callable Tryz.prog 12 := ⟨_, _, Tryz.func12, rfl, rfl⟩
theorem ze_34 : (Tryz.prog.info? 34).map (·.zero) = some (some (.int .u64 0)) := by kernel_rfl
theorem sz_34 : (Tryz.prog.info? 34).map (·.size) = some 1 := by kernel_rfl
theorem sl_25 : TySl Tryz.prog 25 37 5 := ⟨Tryz.underlying25, by kernel_rfl⟩
theorem ag_37 : TyAgg Tryz.prog 37 5 := ⟨⟨_, Tryz.underlying37, rfl⟩, by kernel_rfl⟩
theorem ze_37 : (Tryz.prog.info? 37).map (·.zero) = some (some (.agg #[.int .i64 0, .slice none 0 0, .int .u8 0, .int .i64 0, .string ⟨#[]⟩])) := by kernel_rfl
theorem sz_37 : (Tryz.prog.info? 37).map (·.size) = some 5 := by kernel_rfl
theorem fl_37_1 : Fld Tryz.prog 37 1 1 := ⟨_, _, 0, Tryz.underlying37, rfl, rfl, by kernel_rfl⟩
theorem one_35 : TyOne Tryz.prog 35 := ⟨⟨_, Tryz.underlying35, rfl⟩, by kernel_rfl⟩
theorem ca_13 : Callable Tryz.prog 13 := ⟨_, _, Tryz.func13, rfl, rfl⟩
theorem fl_37_4 : Fld Tryz.prog 37 4 4 := ⟨_, _, 0, Tryz.underlying37, rfl, rfl, by kernel_rfl⟩
theorem one_9 : TyOne Tryz.prog 9 := ⟨⟨_, Tryz.underlying9, rfl⟩, by kernel_rfl⟩
theorem ca_32 : Callable Tryz.prog 32 := ⟨_, _, Tryz.func32, rfl, rfl⟩
theorem fl_67_1 : Fld Tryz.prog 67 1 4 := ⟨_, _, 0, Tryz.underlying67, rfl, rfl, by kernel_rfl⟩
theorem one_64 : TyOne Tryz.prog 64 := ⟨⟨_, Tryz.underlying64, rfl⟩, by kernel_rfl⟩
theorem ca_33 : Callable Tryz.prog 33 := ⟨_, _, Tryz.func33, rfl, rfl⟩
theorem ca_34 : Callable Tryz.prog 34 := ⟨_, _, Tryz.func34, rfl, rfl⟩
theorem ca_35 : Callable Tryz.prog 35 := ⟨_, _, Tryz.func35, rfl, rfl⟩
theorem ca_14 : Callable Tryz.prog 14 := ⟨_, _, Tryz.func14, rfl, rfl⟩
theorem fl_37_3 : Fld Tryz.prog 37 3 3 := ⟨_, _, 0, Tryz.underlying37, rfl, rfl, by kernel_rfl⟩
theorem one_3 : TyOne Tryz.prog 3 := ⟨⟨_, Tryz.underlying3, rfl⟩, by kernel_rfl⟩
theorem ca_36 : Callable Tryz.prog 36 := ⟨_, _, Tryz.func36, rfl, rfl⟩
theorem ca_37 : Callable Tryz.prog 37 := ⟨_, _, Tryz.func37, rfl, rfl⟩
theorem ca_29 : Callable Tryz.prog 29 := ⟨_, _, Tryz.func29, rfl, rfl⟩
theorem ca_38 : Callable Tryz.prog 38 := ⟨_, _, Tryz.func38, rfl, rfl⟩
theorem ze_24 : (Tryz.prog.info? 24).map (·.zero) = some (some (.agg #[.slice none 0 0, .int .i64 0, .int .i64 0, .int .i64 0])) := by kernel_rfl
theorem sz_24 : (Tryz.prog.info? 24).map (·.size) = some 4 := by kernel_rfl
theorem ca_39 : Callable Tryz.prog 39 := ⟨_, _, Tryz.func39, rfl, rfl⟩
theorem fl_24_1 : Fld Tryz.prog 24 1 1 := ⟨_, _, 0, Tryz.underlying24, rfl, rfl, by kernel_rfl⟩
theorem fl_24_2 : Fld Tryz.prog 24 2 2 := ⟨_, _, 0, Tryz.underlying24, rfl, rfl, by kernel_rfl⟩
theorem fl_24_3 : Fld Tryz.prog 24 3 3 := ⟨_, _, 0, Tryz.underlying24, rfl, rfl, by kernel_rfl⟩
end FLaw11c
open FLaw11c
theorem vc_ref {ι : Io} {F : HP} {n : Nat} {ρ : List (Nat × Value)} {l : List HP} {K : Act → World → Prop} (i : Nat) {b : Nat} {X : RmX} (hA : nth l i = some (RefC b X)) (g : ∀ I, RfH X I.K I.T X.R.begin I.L → VC ι F n K ρ (RfO b X I ++ del l i)) : VC ι F n K ρ l := fun a w he hw => by
 have h1 : Holds ι w (sep (RefC b X) (sep (seps (del l i)) F)) := (hw.ent (Ent.sep (Ent.out hA) Ent.rfl)).ent Ent.assoc
 obtain ⟨g1, g2, r, x, s, x1, x2, hj, ⟨I, y1, y2, hj2, hrel, hy⟩, hf⟩ := h1
 refine g I hrel a w he ?_
 have h2 : Holds ι w (sep (sep (lift (RfH X I.K I.T X.R.begin I.L)) (seps (RfO b X I))) (sep (seps (del l i)) F)) := ⟨g1, g2, r, x, s, x1, x2, hj, ⟨y1, y2, hj2, hrel, hy⟩, hf⟩
 exact ((h2.ent (Ent.sep Ent.right Ent.rfl)).ent Ent.assoc').ent (Ent.sep Ent.append' Ent.rfl)
structure StepOk (label : List Int) (ring quota most : Int) (i : Nat) (X : RmX) : Prop where
 ok : X.ok
 lab : X.label = label
 ring : X.ring = ring
 quota : X.quota = quota
 most : X.most = most
 bg : X.R.seq - X.R.begin ≤ i
 len : X.M.length ≤ 30 * i
theorem mPuts_len (n : Int) : ∀ (ws : List Wr) (M : Mp), (mPuts M n ws).length ≤ M.length + ws.length
 | [], M => by simp [mPuts]
 | w :: r, M => by
  have h1 := mPuts_len n r (mPut M w.key ⟨n, w.gone, w.val⟩)
  have h2 := mPut_len (M := M) (k := w.key) (x := ⟨n, w.gone, w.val⟩)
  simp only [mPuts, List.length_cons]
  omega
theorem commit_step (X : RmX) (ws : List Wr) (s : Int) : (commitX X ws s).2.2.label = X.label ∧ (commitX X ws s).2.2.ring = X.ring ∧ (commitX X ws s).2.2.quota = X.quota ∧ (commitX X ws s).2.2.most = X.most ∧ (commitX X ws s).2.2.R.begin = X.R.begin ∧ (commitX X ws s).2.2.R.seq ≤ X.R.seq + 1 ∧ (commitX X ws s).2.2.M.length ≤ X.M.length + ws.length := by
 have hp : (pushR X.R s).2.2.begin = X.R.begin ∧ (pushR X.R s).2.2.seq ≤ X.R.seq + 1 := by
  unfold pushR
  split
  ·exact ⟨rfl, by simp only; omega⟩
  ·split
   ·exact ⟨rfl, by simp only; omega⟩
   ·exact ⟨rfl, by simp only; omega⟩
 unfold commitX
 split
 ·split
  ·split
   ·exact ⟨rfl, rfl, rfl, rfl, hp.1, hp.2, mPuts_len _ _ _⟩
   ·exact ⟨rfl, rfl, rfl, rfl, rfl, by simp only; omega, by simp only; omega⟩
  ·exact ⟨rfl, rfl, rfl, rfl, rfl, by simp only; omega, by simp only; omega⟩
 ·exact ⟨rfl, rfl, rfl, rfl, rfl, by simp only; omega, by simp only; omega⟩
theorem sweepM_len (M : Mp) (f : Int) : (sweepM M f).length ≤ M.length := List.length_filterMap_le _ _
section
variable {label : List Int} {ring quota most : Int} {i : Nat} {X : RmX}
theorem StepOk.skip (h : StepOk label ring quota most i X) : StepOk label ring quota most (i + 1) X := ⟨h.ok, h.lab, h.ring, h.quota, h.most, by have := h.bg; omega, by have := h.len; omega⟩
theorem StepOk.commit (h : StepOk label ring quota most i X) {ws : List Wr} (hl : ws.length ≤ 30) (s : Int) (hok : (commitX X ws s).2.2.ok) : StepOk label ring quota most (i + 1) (commitX X ws s).2.2 := by
 obtain ⟨h1, h2, h3, h4, h5, h6, h7⟩ := commit_step X ws s
 exact ⟨hok, h1.trans h.lab, h2.trans h.ring, h3.trans h.quota, h4.trans h.most, by have := h.bg; omega, by have := h.len; omega⟩
theorem StepOk.sweep (h : StepOk label ring quota most i X) : StepOk label ring quota most i (swX X) := ⟨h.ok.sweep, h.lab, h.ring, h.quota, h.most, h.bg, by have h1 := h.len; have := sweepM_len X.M X.R.floor; simp only [swX]; omega⟩
theorem StepOk.act (h : StepOk label ring quota most i X) {a : ActV} (hl : a.ws.length ≤ 30) (x : Int) (hok : (actX X a x).1.ok) : StepOk label ring quota most (i + 1) (actX X a x).1 := by
 by_cases h1 : a.kind = 1
 ·have e : actX X a x = ((commitX X a.ws (stampA a x)).2.2, if (commitX X a.ws (stampA a x)).2.1 = 0 then stampA a x else x) := if_pos h1
  rw [e] at hok ⊢
  exact h.commit hl _ hok
 ·by_cases h2 : a.kind = 2
  ·have e : actX X a x = (swX X, x) := by unfold actX; rw [if_neg h1, if_pos h2]
   rw [e]
   exact h.sweep.skip
  ·have e : actX X a x = (X, x) := by unfold actX; rw [if_neg h1, if_neg h2]
   rw [e]
   exact h.skip
theorem StepOk.zero (hr : setRight label ring quota most = true) {m : Int} (h1 : 0 ≤ m) (h2 : m ≤ most) : StepOk label ring quota most 0 (X0 label ring quota most m) :=
 ⟨X0_ok hr h1 h2, rfl, rfl, rfl, rfl, by simp [X0], by simp [X0]⟩
end
theorem plays_bad {W : HP} {hl : SH} {label : List Int} (hv : Vis W (Rd eU64 hl label)) (hp : ∀ t ∈ label, 0 ≤ t) (ring quota most : Int) {ha : SH} {acts : List ActV} (hva : Vis W (Rd eAct ha acts)) (hA : ∀ a ∈ acts, ActOk W a) (stamp : Int) (hr : setRight label ring quota most = false) : Does Tryz.prog 5 [.agg #[hl.v, .int .i64 ring, .int .i64 quota, .int .i64 most], ha.v, .int .u64 stamp] [W] (fun v l => v = .bool true ∧ l = [W]) := by
 refine spec_of Tryz.func5 rfl Tryz.ntmps5 Tryz.results5 _ (by simp) fun ι F => ?_
 refine vc_see 0 rfl (hv.imp fun w r => r.len) (fun hll => ?_)
 refine vc_see 0 rfl (hva.imp fun w r => r.len) (fun hla => ?_)
 refine vc_seq ?_
 refine vc_region ?_
 refine vc_box [_, _, _, _] rfl rfl rfl (fun b3 => ?_)
 refine vp ?_
 refine vc_nil ?_
 refine vc_then ?_
 refine vc_seq ?_
 refine vc_seq ?_
 refine vc_region ?_
 refine vc_callv ca_10 (us := []) (vs := []) rfl [] rfl [] rfl (awake11) rfl ?_
 rintro _ _ ⟨rfl, rfl⟩
 refine vp ?_
 refine vc_nil ?_
 refine vc_then ?_
 refine vc_condF rfl ?_
 refine vc_skip ?_
 refine vc_then ?_
 refine vc_seq ?_
 refine vc_seq ?_
 refine vc_region ?_
 refine vc_y (y_fieldP fl_24_0 0 rfl rfl) rfl ?_
 refine vc_y (y_load1 0 rfl one_22 rfl (Pts.vis rfl)) rfl ?_
 refine vc_y (y_len Tryz.underlying22 rfl (by first | assumption | rfl)) rfl ?_
 refine vp ?_
 refine vc_nil ?_
 refine vc_then ?_
 first | refine vc_condP rfl (fun c23 => ?_) (fun c23 => ?_) | refine vc_condN rfl (fun c23 => ?_) (fun c23 => ?_) | refine vc_cond rfl (fun c23 => ?_) (fun c23 => ?_)
 ·skip
  refine vc_seq ?_
  refine vc_region ?_
  refine vp ?_
  refine vc_nil ?_
  refine vc_then ?_
  refine vc_ret ?_
  refine vc_thenRet ?_
  exact vc_end1 Tryz.results5 rfl _ (ent_pick [1] rfl) ⟨by simp, rfl⟩
 ·skip
  refine vc_skip ?_
  refine vc_then ?_
  refine vc_seq ?_
  refine vc_region ?_
  refine vc_y (y_loadA 0 rfl (cs := [_, _, _, _]) ag_24 rfl (Pts.visA rfl)) rfl ?_
  refine vc_callv ca_11 (us := []) (vs := []) rfl [_] rfl [1] rfl (new_bad hv ring quota most hr) rfl ?_
  rintro _ _ ⟨rfl, rfl⟩
  iterate 5 refine vp ?_
  refine vc_nil ?_
  refine vc_then ?_
  refine vc_seq ?_
  refine vc_seq ?_
  refine vc_draw (by kernel_rfl) _ none [1] rfl ?_
  refine tk 0 rfl (by exact y_loadA 0 rfl (cs := [_, _, _, _]) ag_24 rfl (Pts.visA rfl)) ?_
  refine tk 2 rfl (by exact y_loadA 0 rfl (cs := [_, _, _, _]) ag_24 rfl (Pts.visA rfl)) ?_
  refine va_ready [1] (by kernel_rfl) rfl ?_
  refine vo_cons rfl (fun hC0 => ?_) ?_
  ·skip
   refine vc_callv ca_30 (us := []) (vs := []) rfl [_] rfl [0] rfl (Does.re (rright_spec hv ring quota most) (show _ = Value.bool false by rw [hr])) rfl ?_
   rintro _ _ ⟨rfl, rfl⟩
   refine vc_nil ?_
   refine vc_then ?_
   refine va_kept hC0 [1] rfl ?_
   clear hC0
   refine va_ready [3] (by kernel_rfl) rfl ?_
   refine vo_cons rfl (fun hC0 => ?_) ?_
   ·skip
    refine vc_callv ca_31 (us := []) (vs := []) rfl [_] rfl [0] rfl (Does.re (refRRight_spec hv hp (by omega) ring quota most) (show _ = Value.bool false by rw [hr])) rfl ?_
    rintro _ _ ⟨rfl, rfl⟩
    refine vc_nil ?_
    refine vc_then ?_
    refine va_kept hC0 [1] rfl ?_
    clear hC0
    refine tp 4 rfl (by exact y_neB Tryz.underlying4 rfl rfl) ?_
    refine va_done (by kernel_rfl) ?_
    refine vc_then ?_
    first | refine vc_condP rfl (fun c33 => ?_) (fun c33 => ?_) | refine vc_condN rfl (fun c33 => ?_) (fun c33 => ?_) | refine vc_cond rfl (fun c33 => ?_) (fun c33 => ?_)
    ·skip
     simp at c33
    ·skip
     refine vc_skip ?_
     refine vc_then ?_
     refine vc_seq ?_
     refine vc_seq ?_
     refine vc_region ?_
     refine vc_y (y_loadA 1 rfl (cs := [_, _, _, _]) ag_24 rfl (Pts.visA rfl)) rfl ?_
     refine vc_callv ca_31 (us := []) (vs := []) rfl [_] rfl [0] rfl (Does.re (refRRight_spec hv hp (by omega) ring quota most) (show _ = Value.bool false by rw [hr])) rfl ?_
     rintro _ _ ⟨rfl, rfl⟩
     refine vp ?_
     refine vc_nil ?_
     refine vc_then ?_
     refine vc_condT rfl ?_
     refine vc_seq ?_
     refine vc_region ?_
     refine vp ?_
     refine vc_y (y_eqNil ep_28 rfl rfl) rfl ?_
     refine vp ?_
     refine vc_guardT 39 rfl rfl ?_
     refine vp ?_
     refine vc_guardT 39 rfl rfl ?_
     iterate 3 refine vp ?_
     refine vc_nil ?_
     refine vc_then ?_
     refine vc_ret ?_
     refine vc_thenRet ?_
     exact vc_end1 Tryz.results5 rfl _ (ent_pick [0] rfl) ⟨by simp, rfl⟩
   exact vo_nil
  exact vo_nil
theorem plays_ok {W : HP} {hl : SH} {label : List Int} (hv : Vis W (Rd eU64 hl label)) (hp : ∀ t ∈ label, 0 ≤ t) (ring quota most : Int) {ha : SH} {acts : List ActV} (hva : Vis W (Rd eAct ha acts)) (hA : ∀ a ∈ acts, ActOk W a) (stamp : Int) (hr : setRight label ring quota most = true) : Does Tryz.prog 5 [.agg #[hl.v, .int .i64 ring, .int .i64 quota, .int .i64 most], ha.v, .int .u64 stamp] [W] (fun v l => v = .bool true ∧ l = [W]) := by
 refine spec_of Tryz.func5 rfl Tryz.ntmps5 Tryz.results5 _ (by simp) fun ι F => ?_
 refine vc_see 0 rfl (hv.imp fun w r => r.len) (fun hll => ?_)
 refine vc_see 0 rfl (hva.imp fun w r => r.len) (fun hla => ?_)
 have hmo : 0 ≤ most := by have h0 := hr; simp only [setRight, Bool.and_eq_true, decide_eq_true_eq] at h0; omega
 refine vc_seq ?_
 refine vc_region ?_
 refine vc_box [_, _, _, _] rfl rfl rfl (fun b3 => ?_)
 refine vp ?_
 refine vc_nil ?_
 refine vc_then ?_
 refine vc_seq ?_
 refine vc_seq ?_
 refine vc_region ?_
 refine vc_callv ca_10 (us := []) (vs := []) rfl [] rfl [] rfl (awake11) rfl ?_
 rintro _ _ ⟨rfl, rfl⟩
 refine vp ?_
 refine vc_nil ?_
 refine vc_then ?_
 refine vc_condF rfl ?_
 refine vc_skip ?_
 refine vc_then ?_
 refine vc_seq ?_
 refine vc_seq ?_
 refine vc_region ?_
 refine vc_y (y_fieldP fl_24_0 0 rfl rfl) rfl ?_
 refine vc_y (y_load1 0 rfl one_22 rfl (Pts.vis rfl)) rfl ?_
 refine vc_y (y_len Tryz.underlying22 rfl (by first | assumption | rfl)) rfl ?_
 refine vp ?_
 refine vc_nil ?_
 refine vc_then ?_
 first | refine vc_condP rfl (fun c23 => ?_) (fun c23 => ?_) | refine vc_condN rfl (fun c23 => ?_) (fun c23 => ?_) | refine vc_cond rfl (fun c23 => ?_) (fun c23 => ?_)
 ·skip
  refine vc_seq ?_
  refine vc_region ?_
  refine vp ?_
  refine vc_nil ?_
  refine vc_then ?_
  refine vc_ret ?_
  refine vc_thenRet ?_
  exact vc_end1 Tryz.results5 rfl _ (ent_pick [1] rfl) ⟨by first | rfl | simp [hS.most], rfl⟩
 ·skip
  refine vc_skip ?_
  refine vc_then ?_
  refine vc_seq ?_
  refine vc_region ?_
  refine vc_y (y_loadA 0 rfl (cs := [_, _, _, _]) ag_24 rfl (Pts.visA rfl)) rfl ?_
  refine vc_callv ca_11 (us := []) (vs := []) rfl [_] rfl [1] rfl (new_ok hv ring quota most hr) rfl ?_
  rintro _ _ ⟨b, rfl, rfl⟩
  iterate 5 refine vp ?_
  refine vc_nil ?_
  refine vc_then ?_
  refine vc_seq ?_
  refine vc_seq ?_
  refine vc_draw (by kernel_rfl) _ none [2] rfl ?_
  refine tk 0 rfl (by exact y_loadA 0 rfl (cs := [_, _, _, _]) ag_24 rfl (Pts.visA rfl)) ?_
  refine tk 2 rfl (by exact y_loadA 0 rfl (cs := [_, _, _, _]) ag_24 rfl (Pts.visA rfl)) ?_
  refine va_ready [1] (by kernel_rfl) rfl ?_
  refine vo_cons rfl (fun hC0 => ?_) ?_
  ·skip
   refine vc_callv ca_30 (us := []) (vs := []) rfl [_] rfl [1] rfl (Does.re (rright_spec hv ring quota most) (show _ = Value.bool true by rw [hr])) rfl ?_
   rintro _ _ ⟨rfl, rfl⟩
   refine vc_nil ?_
   refine vc_then ?_
   refine va_kept hC0 [2] rfl ?_
   clear hC0
   refine va_ready [3] (by kernel_rfl) rfl ?_
   refine vo_cons rfl (fun hC0 => ?_) ?_
   ·skip
    refine vc_callv ca_31 (us := []) (vs := []) rfl [_] rfl [0] rfl (Does.re (refRRight_spec hv hp (by omega) ring quota most) (show _ = Value.bool true by rw [hr])) rfl ?_
    rintro _ _ ⟨rfl, rfl⟩
    refine vc_nil ?_
    refine vc_then ?_
    refine va_kept hC0 [2] rfl ?_
    clear hC0
    refine tp 4 rfl (by exact y_neB Tryz.underlying4 rfl rfl) ?_
    refine va_done (by kernel_rfl) ?_
    refine vc_then ?_
    first | refine vc_condP rfl (fun c33 => ?_) (fun c33 => ?_) | refine vc_condN rfl (fun c33 => ?_) (fun c33 => ?_) | refine vc_cond rfl (fun c33 => ?_) (fun c33 => ?_)
    ·skip
     simp at c33
    ·skip
     refine vc_skip ?_
     refine vc_then ?_
     refine vc_seq ?_
     refine vc_seq ?_
     refine vc_region ?_
     refine vc_y (y_loadA 2 rfl (cs := [_, _, _, _]) ag_24 rfl (Pts.visA rfl)) rfl ?_
     refine vc_callv ca_31 (us := []) (vs := []) rfl [_] rfl [0] rfl (Does.re (refRRight_spec hv hp (by omega) ring quota most) (show _ = Value.bool true by rw [hr])) rfl ?_
     rintro _ _ ⟨rfl, rfl⟩
     refine vp ?_
     refine vc_nil ?_
     refine vc_then ?_
     refine vc_condF rfl ?_
     refine vc_skip ?_
     refine vc_then ?_
     refine vc_seq ?_
     refine vc_region ?_
     refine vc_y (y_loadA 2 rfl (cs := [_, _, _, _]) ag_24 rfl (Pts.visA rfl)) rfl ?_
     refine vc_callv ca_12 (us := []) (vs := []) rfl [_, _] rfl [] rfl (ref_new hr (Int.le_refl 0) hmo) rfl ?_
     rintro _ _ ⟨bm, rfl, rfl⟩
     refine vp ?_
     refine vc_nil ?_
     refine vc_then ?_
     refine vc_seq ?_
     refine vc_region ?_
     refine vc_alloc [.int .u64 0] ze_34 rfl rfl (fun b10 => ?_)
     refine vc_storeP 0 rfl [_] [_] rfl rfl rfl sz_34 rfl rfl rfl ?_
     refine vc_nil ?_
     refine vc_then ?_
     refine vc_seq ?_
     refine vc_seq ?_
     refine vc_region ?_
     refine vp ?_
     refine vc_nil ?_
     refine vc_then ?_
     refine vc_block ?_
     refine vc_loop (α := Nat × RmX × Int) (fun xq_ => match xq_ with | (i, X, x) => [(1, ha.v), (2, .int .u64 stamp), (3, .pointer (some ⟨b3, 0, none⟩)), (7, .pointer (some ⟨b, 0, none⟩)), (8, .int .i64 0), (9, .pointer (some ⟨bm, 0, none⟩)), (10, .pointer (some ⟨b10, 0, none⟩)), (11, .int .i64 (i : Int))]) (fun xq_ => match xq_ with | (i, X, x) => [RoomC b X, RefC bm X, Pts b10 [.int .u64 x] 34, Pts b3 [hl.v, .int .i64 ring, .int .i64 quota, .int .i64 most] 24, W]) (fun xq_ => match xq_ with | (i, X, x) => 120 - i) (fun xq_ => match xq_ with | (i, X, x) => i ≤ 120 ∧ StepOk label ring quota most i X) (0, X0 label ring quota most 0, 0) ⟨Nat.zero_le _, StepOk.zero hr (Int.le_refl 0) hmo⟩ ⟨rfl, rfl, rfl, rfl, rfl, rfl, rfl, rfl, trivial⟩ (ent_pick [3, 1, 0, 1, 0] rfl) ?_
     rintro ⟨i, X, x⟩ ⟨hi, hS⟩
     show VC _ _ _ _ [(1, ha.v), (2, .int .u64 stamp), (3, .pointer (some ⟨b3, 0, none⟩)), (7, .pointer (some ⟨b, 0, none⟩)), (8, .int .i64 0), (9, .pointer (some ⟨bm, 0, none⟩)), (10, .pointer (some ⟨b10, 0, none⟩)), (11, .int .i64 (i : Int))] ([RoomC b X, RefC bm X, Pts b10 [.int .u64 x] 34, Pts b3 [hl.v, .int .i64 ring, .int .i64 quota, .int .i64 most] 24, W])
     refine vc_seq ?_
     refine vc_seq ?_
     refine vc_region ?_
     refine vp ?_
     refine vp ?_
     refine vc_y (y_len Tryz.underlying25 rfl (by first | assumption | rfl)) rfl ?_
     refine vp ?_
     refine vp ?_
     first | refine vc_splitP 49 rfl (fun c49 => ?_) (fun c49 => ?_) | refine vc_splitN 49 rfl (fun c49 => ?_) (fun c49 => ?_) | refine vc_split 49 rfl (fun c49 => ?_) (fun c49 => ?_)
     ·skip
      have hi2 : i < acts.length := by omega
      refine vc_guardT 49 rfl rfl ?_
      refine vp ?_
      refine vc_guardT 49 rfl rfl ?_
      refine vp ?_
      refine vp ?_
      refine vc_nil ?_
      refine vc_then ?_
      first | refine vc_condP rfl (fun c52 => ?_) (fun c52 => ?_) | refine vc_condN rfl (fun c52 => ?_) (fun c52 => ?_) | refine vc_cond rfl (fun c52 => ?_) (fun c52 => ?_)
      ·skip
       have hi3 : i < 120 := by omega
       have ok := hS.ok
       have hsb := hS.bg
       have hsl := hS.len
       have hsq : X.R.seq ≤ 9223372036854775807 := by have := ok.rg.q; omega
       refine vc_skip ?_
       refine vc_then ?_
       refine vc_seq ?_
       refine vc_block ?_
       refine vc_seq ?_
       refine vc_region ?_
       refine vp ?_
       refine vp ?_
       refine vc_y (y_elem 4 rfl (hva) i rfl hi2 sl_25 rfl rfl) rfl ?_
       refine vc_y (y_loadA 4 rfl (cs := [_, _, _, _, _]) ag_37 rfl (Rd.visA (hva) (List.getElem?_eq_getElem (by first | assumption | omega)) rfl)) rfl ?_
       refine vc_alloc [.int .i64 0, .slice none 0 0, .int .u8 0, .int .i64 0, .string ⟨#[]⟩] ze_37 rfl rfl (fun b12 => ?_)
       refine vc_storeP 0 rfl [_, _, _, _, _] [_, _, _, _, _] rfl rfl rfl sz_37 rfl rfl rfl ?_
       refine vc_nil ?_
       refine vc_then ?_
       refine vc_seq ?_
       refine vc_seq ?_
       refine vc_region ?_
       refine vc_y (y_fieldP fl_37_1 1 rfl rfl) rfl ?_
       refine vc_y (y_load1 0 rfl one_35 rfl (Pts.vis rfl)) rfl ?_
       refine vc_callv ca_13 (us := []) (vs := []) rfl [_] rfl [5] rfl (far_spec (hA _ (List.getElem_mem hi2)).vis) rfl ?_
       rintro _ _ ⟨t, rfl, hfar, rfl⟩
       refine vp ?_
       first | refine vc_splitP 62 rfl (fun c62 => ?_) (fun c62 => ?_) | refine vc_splitN 62 rfl (fun c62 => ?_) (fun c62 => ?_) | refine vc_split 62 rfl (fun c62 => ?_) (fun c62 => ?_)
       ·skip
        refine vc_guardF 62 rfl rfl rfl rfl ?_
        refine vc_guardF 62 rfl rfl rfl rfl ?_
        refine vc_guardF 62 rfl rfl rfl rfl ?_
        refine vc_guardF 62 rfl rfl rfl rfl ?_
        refine vp ?_
        refine vc_nil ?_
        refine vc_then ?_
        refine vc_condT rfl ?_
        refine vc_exit ?_
        refine vc_thenExit ?_
        refine vc_inExit ?_
        refine vc_then ?_
        refine vc_region ?_
        refine vp ?_
        first | refine vc_y (y_arith _ rfl (wrapNadd (by omega))) rfl ?_ | refine vc_y (y_arith _ rfl (wrap64 (by omega) (by omega))) rfl ?_ | refine vp ?_
        refine vp ?_
        refine vc_nil ?_
        refine vc_then ?_
        first | exact vc_again (x := (i, X, x)) (i + 1, (actX X acts[i] x).1, (actX X acts[i] x).2) ⟨by omega, hS.act hwl x hok2⟩ (by show 120 - (i + 1) < 120 - i; omega) ⟨rfl, rfl, rfl, rfl, rfl, rfl, rfl, rfl, trivial⟩ (ent_pick [2, 2, 2, 2, 0] rfl) | exact vc_again (x := (i, X, x)) (i + 1, X, x) ⟨by omega, hS.skip⟩ (by show 120 - (i + 1) < 120 - i; omega) ⟨rfl, rfl, rfl, rfl, rfl, rfl, rfl, rfl, trivial⟩ (ent_pick [2, 2, 2, 2, 0] rfl)
       ·skip
        have hwl : acts[i].ws.length ≤ 30 := hfar c62
        refine vc_guardT 62 rfl rfl ?_
        refine vc_y (y_fieldP fl_37_4 4 rfl rfl) rfl ?_
        refine vc_guardT 62 rfl rfl ?_
        refine vc_y (y_load1 1 rfl one_9 rfl (Pts.vis rfl)) rfl ?_
        refine vc_guardT 62 rfl rfl ?_
        refine vc_y (y_strLen Tryz.underlying9 rfl) rfl ?_
        refine vc_guardT 62 rfl rfl ?_
        refine vp ?_
        refine vp ?_
        refine vc_nil ?_
        refine vc_then ?_
        first | refine vc_condP rfl (fun c67 => ?_) (fun c67 => ?_) | refine vc_condN rfl (fun c67 => ?_) (fun c67 => ?_) | refine vc_cond rfl (fun c67 => ?_) (fun c67 => ?_)
        ·skip
         refine vc_exit ?_
         refine vc_thenExit ?_
         refine vc_inExit ?_
         refine vc_then ?_
         refine vc_region ?_
         refine vp ?_
         first | refine vc_y (y_arith _ rfl (wrapNadd (by omega))) rfl ?_ | refine vc_y (y_arith _ rfl (wrap64 (by omega) (by omega))) rfl ?_ | refine vp ?_
         refine vp ?_
         refine vc_nil ?_
         refine vc_then ?_
         first | exact vc_again (x := (i, X, x)) (i + 1, (actX X acts[i] x).1, (actX X acts[i] x).2) ⟨by omega, hS.act hwl x hok2⟩ (by show 120 - (i + 1) < 120 - i; omega) ⟨rfl, rfl, rfl, rfl, rfl, rfl, rfl, rfl, trivial⟩ (ent_pick [2, 2, 2, 2, 0] rfl) | exact vc_again (x := (i, X, x)) (i + 1, X, x) ⟨by omega, hS.skip⟩ (by show 120 - (i + 1) < 120 - i; omega) ⟨rfl, rfl, rfl, rfl, rfl, rfl, rfl, rfl, trivial⟩ (ent_pick [2, 2, 2, 2, 0] rfl)
        ·skip
         refine vc_skip ?_
         refine vc_then ?_
         refine vc_seq ?_
         refine vc_region ?_
         refine vp ?_
         refine vp ?_
         refine vc_callv ca_32 (us := []) (vs := []) rfl [_, _] rfl [2] rfl (room_asof ok stamp) rfl ?_
         rintro _ _ ⟨rfl, rfl⟩
         iterate 5 refine vp ?_
         refine vc_nil ?_
         refine vc_then ?_
         refine vc_seq ?_
         refine vc_region ?_
         refine vc_ref 3 rfl (fun I H => ?_)
         refine vp ?_
         refine vp ?_
         refine vc_y (y_fieldP fl_67_1 4 rfl rfl) rfl ?_
         refine vc_y (y_load1 0 rfl one_64 rfl (Pts.vis rfl)) rfl ?_
         refine vp ?_
         refine vc_callv ca_33 (us := []) (vs := []) rfl [_, _] rfl [3, 3] rfl (Does.re (rgAsOf (K := I.K) H.hq (by rw [H.ring]; exact ok.r1) H.g.rise stamp) (show _ = Value.tuple #[.int .i64 (asOfR X.R stamp).1, .int .i64 (asOfR X.R stamp).2] by rw [← asOf_eq ok.rg H.g, H.ring, ← ok.rs]; unfold asOfL; split <;> rfl)) rfl ?_
         rintro _ _ ⟨rfl, rfl⟩
         iterate 5 refine vp ?_
         refine vc_nil ?_
         refine vc_then ?_
         refine vc_seq ?_
         refine vc_ent (ent_at [2, 2, 2, 0, 0, 0, 0, 0, 0, 0] rfl (ent_Rf H)) ?_
         refine vc_draw (by kernel_rfl) _ none [3] rfl ?_
         refine tp 0 rfl (by exact y_fieldP fl_37_1 1 rfl rfl) ?_
         refine tk 1 rfl (by exact y_load1 0 rfl one_35 rfl (Pts.vis rfl)) ?_
         refine tp 3 rfl (by exact y_fieldP fl_37_1 1 rfl rfl) ?_
         refine tk 4 rfl (by exact y_load1 0 rfl one_35 rfl (Pts.vis rfl)) ?_
         refine va_ready [2] (by kernel_rfl) rfl ?_
         refine vo_cons rfl (fun hC0 => ?_) ?_
         ·skip
          refine vc_callv ca_34 (us := []) (vs := []) rfl [_] rfl [2] rfl (rmay_spec (hA _ (List.getElem_mem hi2)).vis (by omega)) rfl ?_
          rintro _ _ ⟨rfl, rfl⟩
          refine vc_nil ?_
          refine vc_then ?_
          refine va_kept hC0 [3] rfl ?_
          clear hC0
          refine va_ready [5] (by kernel_rfl) rfl ?_
          refine vo_cons rfl (fun hC0 => ?_) ?_
          ·skip
           refine vc_callv ca_35 (us := []) (vs := []) rfl [_] rfl [0] rfl (refMay_spec (hA _ (List.getElem_mem hi2)).vis (by omega) (hA _ (List.getElem_mem hi2)).bits) rfl ?_
           rintro _ _ ⟨rfl, rfl⟩
           refine vc_nil ?_
           refine vc_then ?_
           refine va_kept hC0 [3] rfl ?_
           clear hC0
           refine tp 6 rfl (by exact y_neB Tryz.underlying4 rfl rfl) ?_
           refine tpp 7 ?_
           first | refine va_splitP 90 rfl (fun c90 => ?_) (fun c90 => ?_) | refine va_splitN 90 rfl (fun c90 => ?_) (fun c90 => ?_) | refine va_split 90 rfl (fun c90 => ?_) (fun c90 => ?_)
           ·skip
            simp at c90
           ·skip
            refine tgp 8 90 ?_
            refine tgp 9 90 ?_
            refine tkg 10 90 rfl (by exact y_loadA 0 rfl (cs := [_, _, _, _, _]) ag_37 rfl (Pts.visA rfl)) ?_
            refine va_ready [11] (by kernel_rfl) rfl ?_
            refine vo_cons rfl (fun hC0 => ?_) ?_
            ·skip
             refine vc_guardT 90 rfl rfl ?_
             refine vc_callv ca_14 (us := []) (vs := []) rfl [_, _, _, _] rfl [2, 1, 2, 0] rfl (does_spec ok (hA _ (List.getElem_mem hi2)) (by omega) (by omega) (.inl (by omega)) x) rfl ?_
             rintro _ _ ⟨rfl, hok2, rfl⟩
             have hsq2 : (actX X acts[i] x).1.R.seq ≤ 9223372036854775807 := by have := hok2.rg.q; omega
             refine vc_nil ?_
             refine vc_then ?_
             refine va_kept hC0 [4] rfl ?_
             clear hC0
             refine tgp 12 90 ?_
             refine tpp 13 ?_
             refine tpp 14 ?_
             refine tgp 15 97 ?_
             refine tgp 16 97 ?_
             refine tgp 17 97 ?_
             refine tpp 18 ?_
             refine tpp 19 ?_
             first | refine va_splitP 102 rfl (fun c102 => ?_) (fun c102 => ?_) | refine va_splitN 102 rfl (fun c102 => ?_) (fun c102 => ?_) | refine va_split 102 rfl (fun c102 => ?_) (fun c102 => ?_)
             ·skip
              simp at c102
             ·skip
              refine tgp 20 102 ?_
              refine tgp 21 102 ?_
              refine tgp 22 102 ?_
              refine tpp 23 ?_
              refine tpp 24 ?_
              first | refine va_splitP 107 rfl (fun c107 => ?_) (fun c107 => ?_) | refine va_splitN 107 rfl (fun c107 => ?_) (fun c107 => ?_) | refine va_split 107 rfl (fun c107 => ?_) (fun c107 => ?_)
              ·skip
               simp at c107
              ·skip
               refine tgp 25 107 ?_
               refine tgp 26 107 ?_
               refine tg 27 107 rfl (by exact y_fieldP fl_37_4 4 rfl rfl) ?_
               refine tkg 28 107 rfl (by exact y_load1 0 rfl one_9 rfl (Pts.vis rfl)) ?_
               refine tg 29 107 rfl (by exact y_fieldP fl_37_3 3 rfl rfl) ?_
               refine tkg 30 107 rfl (by exact y_load1 0 rfl one_3 rfl (Pts.vis rfl)) ?_
               refine va_ready [31] (by kernel_rfl) rfl ?_
               refine vo_cons rfl (fun hC0 => ?_) ?_
               ·skip
                refine vc_guardT 107 rfl rfl ?_
                refine vc_callv ca_36 (us := []) (vs := []) rfl [_, _, _, _] rfl [0, 0] rfl (told_spec hok2 acts[i].key (hA _ (List.getElem_mem hi2)).seq) rfl ?_
                rintro _ _ ⟨rfl, rfl⟩
                refine vc_nil ?_
                refine vc_then ?_
                refine va_kept hC0 [4] rfl ?_
                clear hC0
                refine tgp 32 107 ?_
                refine tpp 33 ?_
                refine tpp 34 ?_
                refine tgp 35 117 ?_
                refine tgp 36 117 ?_
                refine tg 37 117 rfl (by exact y_fieldP fl_37_4 4 rfl rfl) ?_
                refine tkg 38 117 rfl (by exact y_load1 0 rfl one_9 rfl (Pts.vis rfl)) ?_
                refine tgp 39 117 ?_
                refine va_ready [40] (by kernel_rfl) rfl ?_
                refine vo_cons rfl (fun hC0 => ?_) ?_
                ·skip
                 refine vc_guardT 117 rfl rfl ?_
                 refine vc_callv ca_37 (us := []) (vs := []) rfl [_] rfl [1] rfl (ref_seq) rfl ?_
                 rintro _ _ ⟨rfl, rfl⟩
                 refine vc_nil ?_
                 refine vc_then ?_
                 refine va_kept hC0 [4] rfl ?_
                 clear hC0
                 refine va_ready [41] (by kernel_rfl) rfl ?_
                 refine vo_cons rfl (fun hC0 => ?_) ?_
                 ·skip
                  refine vc_guardT 117 rfl rfl ?_
                  refine vc_callv ca_36 (us := []) (vs := []) rfl [_, _, _, _] rfl [1, 0] rfl (told_spec hok2 acts[i].key hsq2) rfl ?_
                  rintro _ _ ⟨rfl, rfl⟩
                  refine vc_nil ?_
                  refine vc_then ?_
                  refine va_kept hC0 [4] rfl ?_
                  clear hC0
                  refine tgp 42 117 ?_
                  refine tpp 43 ?_
                  refine tpp 44 ?_
                  refine tgp 45 127 ?_
                  refine tgp 46 127 ?_
                  refine va_ready [47] (by kernel_rfl) rfl ?_
                  refine vo_cons rfl (fun hC0 => ?_) ?_
                  ·skip
                   refine vc_guardT 127 rfl rfl ?_
                   refine vc_callv ca_29 (us := []) (vs := []) rfl [_, _] rfl [0, 0] rfl (counts_spec hok2) rfl ?_
                   rintro _ _ ⟨rfl, rfl⟩
                   refine vc_nil ?_
                   refine vc_then ?_
                   refine va_kept hC0 [4] rfl ?_
                   clear hC0
                   refine tgp 48 127 ?_
                   refine tpp 49 ?_
                   refine va_done (by kernel_rfl) ?_
                   refine vc_then ?_
                   refine vc_condF rfl ?_
                   refine vc_skip ?_
                   refine vc_inNormal ?_
                   refine vc_then ?_
                   refine vc_region ?_
                   refine vp ?_
                   first | refine vc_y (y_arith _ rfl (wrapNadd (by omega))) rfl ?_ | refine vc_y (y_arith _ rfl (wrap64 (by omega) (by omega))) rfl ?_ | refine vp ?_
                   refine vp ?_
                   refine vc_nil ?_
                   refine vc_then ?_
                   first | exact vc_again (x := (i, X, x)) (i + 1, (actX X acts[i] x).1, (actX X acts[i] x).2) ⟨by omega, hS.act hwl x hok2⟩ (by show 120 - (i + 1) < 120 - i; omega) ⟨rfl, rfl, rfl, rfl, rfl, rfl, rfl, rfl, trivial⟩ (ent_pick [0, 0, 0, 2, 0] rfl) | exact vc_again (x := (i, X, x)) (i + 1, X, x) ⟨by omega, hS.skip⟩ (by show 120 - (i + 1) < 120 - i; omega) ⟨rfl, rfl, rfl, rfl, rfl, rfl, rfl, rfl, trivial⟩ (ent_pick [0, 0, 0, 2, 0] rfl)
                  exact vo_nil
                 exact vo_nil
                exact vo_nil
               exact vo_nil
            exact vo_nil
          exact vo_nil
         exact vo_nil
      ·skip
       refine vc_exit ?_
       refine vc_thenExit ?_
       refine vc_thenExit ?_
       refine vc_inExit ?_
       refine vc_then ?_
       refine vc_seq ?_
       refine vc_region ?_
       refine vp ?_
       refine vc_callv ca_38 (us := []) (vs := []) rfl [_] rfl [0] rfl (room_setting hS.ok) rfl ?_
       rintro _ _ ⟨g, rfl, rfl⟩
       refine vc_alloc [.slice none 0 0, .int .i64 0, .int .i64 0, .int .i64 0] ze_24 rfl rfl (fun b17 => ?_)
       refine vc_storeP 0 rfl [_, _, _, _] [_, _, _, _] rfl rfl rfl sz_24 rfl rfl rfl ?_
       refine vc_nil ?_
       refine vc_then ?_
       refine vc_seq ?_
       refine vc_region ?_
       iterate 3 refine vp ?_
       first | refine vc_splitP 137 rfl (fun c137 => ?_) (fun c137 => ?_) | refine vc_splitN 137 rfl (fun c137 => ?_) (fun c137 => ?_) | refine vc_split 137 rfl (fun c137 => ?_) (fun c137 => ?_)
       ·skip
        refine vc_guardT 137 rfl rfl ?_
        refine vc_y (y_fieldP fl_24_0 0 rfl rfl) rfl ?_
        refine vc_guardT 137 rfl rfl ?_
        refine vc_y (y_load1 0 rfl one_22 rfl (Pts.vis rfl)) rfl ?_
        refine vc_guardT 137 rfl rfl ?_
        refine vc_y (y_fieldP fl_24_0 0 rfl rfl) rfl ?_
        refine vc_guardT 137 rfl rfl ?_
        refine vc_y (y_load1 5 rfl one_22 rfl (Pts.vis rfl)) rfl ?_
        refine vc_guardT 137 rfl rfl ?_
        refine vc_callv ca_39 (us := []) (vs := []) rfl [_, _] rfl [2, 5] rfl (sameL_spec (xs := X.label) Sl.vis (by rw [hS.lab]; exact hv) (by have := labelRight_len hS.ok.lab; omega)) rfl ?_
        rintro _ _ ⟨rfl, rfl⟩
        refine vp ?_
        refine vp ?_
        refine vc_guardT 144 rfl rfl ?_
        refine vc_y (y_fieldP fl_24_1 1 rfl rfl) rfl ?_
        refine vc_guardT 144 rfl rfl ?_
        refine vc_y (y_load1 2 rfl one_3 rfl (Pts.vis rfl)) rfl ?_
        refine vc_guardT 144 rfl rfl ?_
        refine vc_y (y_fieldP fl_24_1 1 rfl rfl) rfl ?_
        refine vc_guardT 144 rfl rfl ?_
        refine vc_y (y_load1 6 rfl one_3 rfl (Pts.vis rfl)) rfl ?_
        refine vc_guardT 144 rfl rfl ?_
        iterate 3 refine vp ?_
        first | refine vc_splitP 151 rfl (fun c151 => ?_) (fun c151 => ?_) | refine vc_splitN 151 rfl (fun c151 => ?_) (fun c151 => ?_) | refine vc_split 151 rfl (fun c151 => ?_) (fun c151 => ?_)
        ·skip
         refine vc_guardT 151 rfl rfl ?_
         refine vc_y (y_fieldP fl_24_2 2 rfl rfl) rfl ?_
         refine vc_guardT 151 rfl rfl ?_
         refine vc_y (y_load1 2 rfl one_3 rfl (Pts.vis rfl)) rfl ?_
         refine vc_guardT 151 rfl rfl ?_
         refine vc_y (y_fieldP fl_24_2 2 rfl rfl) rfl ?_
         refine vc_guardT 151 rfl rfl ?_
         refine vc_y (y_load1 6 rfl one_3 rfl (Pts.vis rfl)) rfl ?_
         refine vc_guardT 151 rfl rfl ?_
         iterate 3 refine vp ?_
         first | refine vc_splitP 158 rfl (fun c158 => ?_) (fun c158 => ?_) | refine vc_splitN 158 rfl (fun c158 => ?_) (fun c158 => ?_) | refine vc_split 158 rfl (fun c158 => ?_) (fun c158 => ?_)
         ·skip
          refine vc_guardT 158 rfl rfl ?_
          refine vc_y (y_fieldP fl_24_3 3 rfl rfl) rfl ?_
          refine vc_guardT 158 rfl rfl ?_
          refine vc_y (y_load1 2 rfl one_3 rfl (Pts.vis rfl)) rfl ?_
          refine vc_guardT 158 rfl rfl ?_
          refine vc_y (y_fieldP fl_24_3 3 rfl rfl) rfl ?_
          refine vc_guardT 158 rfl rfl ?_
          refine vc_y (y_load1 6 rfl one_3 rfl (Pts.vis rfl)) rfl ?_
          refine vc_guardT 158 rfl rfl ?_
          iterate 3 refine vp ?_
          refine vc_nil ?_
          refine vc_then ?_
          refine vc_ret ?_
          exact vc_end1 Tryz.results5 rfl _ (ent_pick [1] rfl) ⟨by first | rfl | simp [hS.most], rfl⟩
         ·skip
          exact absurd hS.quota c158
        ·skip
         exact absurd hS.ring c151
       ·skip
        exact absurd rfl c137
     ·skip
      refine vc_guardF 49 rfl rfl rfl rfl ?_
      refine vc_guardF 49 rfl rfl rfl rfl ?_
      refine vp ?_
      refine vc_nil ?_
      refine vc_then ?_
      refine vc_condF rfl ?_
      refine vc_exit ?_
      refine vc_thenExit ?_
      refine vc_thenExit ?_
      refine vc_inExit ?_
      refine vc_then ?_
      refine vc_seq ?_
      refine vc_region ?_
      refine vp ?_
      refine vc_callv ca_38 (us := []) (vs := []) rfl [_] rfl [0] rfl (room_setting hS.ok) rfl ?_
      rintro _ _ ⟨g, rfl, rfl⟩
      refine vc_alloc [.slice none 0 0, .int .i64 0, .int .i64 0, .int .i64 0] ze_24 rfl rfl (fun b17 => ?_)
      refine vc_storeP 0 rfl [_, _, _, _] [_, _, _, _] rfl rfl rfl sz_24 rfl rfl rfl ?_
      refine vc_nil ?_
      refine vc_then ?_
      refine vc_seq ?_
      refine vc_region ?_
      iterate 3 refine vp ?_
      first | refine vc_splitP 137 rfl (fun c137 => ?_) (fun c137 => ?_) | refine vc_splitN 137 rfl (fun c137 => ?_) (fun c137 => ?_) | refine vc_split 137 rfl (fun c137 => ?_) (fun c137 => ?_)
      ·skip
       refine vc_guardT 137 rfl rfl ?_
       refine vc_y (y_fieldP fl_24_0 0 rfl rfl) rfl ?_
       refine vc_guardT 137 rfl rfl ?_
       refine vc_y (y_load1 0 rfl one_22 rfl (Pts.vis rfl)) rfl ?_
       refine vc_guardT 137 rfl rfl ?_
       refine vc_y (y_fieldP fl_24_0 0 rfl rfl) rfl ?_
       refine vc_guardT 137 rfl rfl ?_
       refine vc_y (y_load1 5 rfl one_22 rfl (Pts.vis rfl)) rfl ?_
       refine vc_guardT 137 rfl rfl ?_
       refine vc_callv ca_39 (us := []) (vs := []) rfl [_, _] rfl [2, 5] rfl (sameL_spec (xs := X.label) Sl.vis (by rw [hS.lab]; exact hv) (by have := labelRight_len hS.ok.lab; omega)) rfl ?_
       rintro _ _ ⟨rfl, rfl⟩
       refine vp ?_
       refine vp ?_
       refine vc_guardT 144 rfl rfl ?_
       refine vc_y (y_fieldP fl_24_1 1 rfl rfl) rfl ?_
       refine vc_guardT 144 rfl rfl ?_
       refine vc_y (y_load1 2 rfl one_3 rfl (Pts.vis rfl)) rfl ?_
       refine vc_guardT 144 rfl rfl ?_
       refine vc_y (y_fieldP fl_24_1 1 rfl rfl) rfl ?_
       refine vc_guardT 144 rfl rfl ?_
       refine vc_y (y_load1 6 rfl one_3 rfl (Pts.vis rfl)) rfl ?_
       refine vc_guardT 144 rfl rfl ?_
       iterate 3 refine vp ?_
       first | refine vc_splitP 151 rfl (fun c151 => ?_) (fun c151 => ?_) | refine vc_splitN 151 rfl (fun c151 => ?_) (fun c151 => ?_) | refine vc_split 151 rfl (fun c151 => ?_) (fun c151 => ?_)
       ·skip
        refine vc_guardT 151 rfl rfl ?_
        refine vc_y (y_fieldP fl_24_2 2 rfl rfl) rfl ?_
        refine vc_guardT 151 rfl rfl ?_
        refine vc_y (y_load1 2 rfl one_3 rfl (Pts.vis rfl)) rfl ?_
        refine vc_guardT 151 rfl rfl ?_
        refine vc_y (y_fieldP fl_24_2 2 rfl rfl) rfl ?_
        refine vc_guardT 151 rfl rfl ?_
        refine vc_y (y_load1 6 rfl one_3 rfl (Pts.vis rfl)) rfl ?_
        refine vc_guardT 151 rfl rfl ?_
        iterate 3 refine vp ?_
        first | refine vc_splitP 158 rfl (fun c158 => ?_) (fun c158 => ?_) | refine vc_splitN 158 rfl (fun c158 => ?_) (fun c158 => ?_) | refine vc_split 158 rfl (fun c158 => ?_) (fun c158 => ?_)
        ·skip
         refine vc_guardT 158 rfl rfl ?_
         refine vc_y (y_fieldP fl_24_3 3 rfl rfl) rfl ?_
         refine vc_guardT 158 rfl rfl ?_
         refine vc_y (y_load1 2 rfl one_3 rfl (Pts.vis rfl)) rfl ?_
         refine vc_guardT 158 rfl rfl ?_
         refine vc_y (y_fieldP fl_24_3 3 rfl rfl) rfl ?_
         refine vc_guardT 158 rfl rfl ?_
         refine vc_y (y_load1 6 rfl one_3 rfl (Pts.vis rfl)) rfl ?_
         refine vc_guardT 158 rfl rfl ?_
         iterate 3 refine vp ?_
         refine vc_nil ?_
         refine vc_then ?_
         refine vc_ret ?_
         exact vc_end1 Tryz.results5 rfl _ (ent_pick [1] rfl) ⟨by first | rfl | simp [hS.most], rfl⟩
        ·skip
         exact absurd hS.quota c158
       ·skip
        exact absurd hS.ring c151
      ·skip
       exact absurd rfl c137
   exact vo_nil
  exact vo_nil
end Go.Proofs.YtcpbibdbahfgaaaGreat
