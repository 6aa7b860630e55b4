/-
 Rooms: checks, commits.
-/
import Derived.Test.YtcpbibdbahfgaaaGreatRoomQ
set_option linter.unusedVariables false
set_option linter.unusedSimpArgs false
set_option autoImplicit false
set_option maxHeartbeats 4000000
namespace Go.Proofs.YtcpbibdbahfgaaaGreat
open Go.Eng
namespace FRoom3
theorem sl_35 : TySl Tryz.prog 35 97 5 := ⟨Tryz.underlying35, by kernel_rfl⟩
theorem ag_97 : TyAgg Tryz.prog 97 5 := ⟨⟨_, Tryz.underlying97, rfl⟩, by kernel_rfl⟩
theorem ze_97 : (Tryz.prog.info? 97).map (·.zero) = some (some (.agg #[.string ⟨#[]⟩, .bool false, .bool false, .string ⟨#[]⟩, .int .u64 0])) := by kernel_rfl
theorem sz_97 : (Tryz.prog.info? 97).map (·.size) = some 5 := by kernel_rfl
theorem fl_97_0 : Fld Tryz.prog 97 0 0 := ⟨_, _, 0, Tryz.underlying97, rfl, rfl, by kernel_rfl⟩
theorem one_9 : TyOne Tryz.prog 9 := ⟨⟨_, Tryz.underlying9, rfl⟩, by kernel_rfl⟩
theorem ca_86 : Callable Tryz.prog 86 := ⟨_, _, Tryz.func86, rfl, rfl⟩
theorem fl_97_2 : Fld Tryz.prog 97 2 2 := ⟨_, _, 2, Tryz.underlying97, rfl, rfl, by kernel_rfl⟩
theorem ag_45 : TyAgg Tryz.prog 45 3 := ⟨⟨_, Tryz.underlying45, rfl⟩, by kernel_rfl⟩
theorem ca_87 : Callable Tryz.prog 87 := ⟨_, _, Tryz.func87, rfl, rfl⟩
theorem fl_97_1 : Fld Tryz.prog 97 1 1 := ⟨_, _, 0, Tryz.underlying97, rfl, rfl, by kernel_rfl⟩
theorem one_4 : TyOne Tryz.prog 4 := ⟨⟨_, Tryz.underlying4, rfl⟩, by kernel_rfl⟩
theorem ze_45 : (Tryz.prog.info? 45).map (·.zero) = some (some (.agg #[.bool false, .string ⟨#[]⟩, .int .u64 0])) := by kernel_rfl
theorem bu_45_n   (w : World) : (Instr.build 45 #[]).run Tryz.prog w = .ok (.agg #[.bool false, .string ⟨#[]⟩, .int .u64 0]) w := by
 have hz := @ze_45
 exact Go.Eng.run_build (pl := [(0, 1), (1, 1), (2, 1)]) hz Tryz.underlying45 (by kernel_rfl) rfl (by simp [Instr.fill, cells_agg]) w
theorem eg_45 : Tryz.prog.eqGuardType Tryz.prog.depth 45 = false := by kernel_rfl
theorem ca_84 : Callable Tryz.prog 84 := ⟨_, _, Tryz.func84, rfl, rfl⟩
theorem fl_132_0 : Fld Tryz.prog 132 0 0 := ⟨_, _, 3, Tryz.underlying132, rfl, rfl, by kernel_rfl⟩
theorem fl_24_3 : Fld Tryz.prog 24 3 3 := ⟨_, _, 0, Tryz.underlying24, rfl, rfl, by kernel_rfl⟩
theorem one_3 : TyOne Tryz.prog 3 := ⟨⟨_, Tryz.underlying3, rfl⟩, by kernel_rfl⟩
theorem ca_16 : Callable Tryz.prog 16 := ⟨_, _, Tryz.func16, rfl, rfl⟩
theorem fl_132_5 : Fld Tryz.prog 132 5 8 := ⟨_, _, 0, Tryz.underlying132, rfl, rfl, by kernel_rfl⟩
theorem ca_76 : Callable Tryz.prog 76 := ⟨_, _, Tryz.func76, rfl, rfl⟩
theorem ca_120 : Callable Tryz.prog 120 := ⟨_, _, Tryz.func120, rfl, rfl⟩
theorem ca_113 : Callable Tryz.prog 113 := ⟨_, _, Tryz.func113, rfl, rfl⟩
theorem fl_24_2 : Fld Tryz.prog 24 2 2 := ⟨_, _, 0, Tryz.underlying24, rfl, rfl, by kernel_rfl⟩
theorem ep_28 : Tryz.prog.underlying 28 = some (.pointer (Tryz.prog.pointee 28)) := by kernel_rfl
theorem ca_34 : Callable Tryz.prog 34 := ⟨_, _, Tryz.func34, rfl, rfl⟩
theorem ca_18 : Callable Tryz.prog 18 := ⟨_, _, Tryz.func18, rfl, rfl⟩
theorem ca_85 : Callable Tryz.prog 85 := ⟨_, _, Tryz.func85, rfl, rfl⟩
theorem ze_135 : (Tryz.prog.info? 135).map (·.zero) = some (some (.agg #[.int .i64 0, .bool false, .bool false, .string ⟨#[]⟩, .int .u64 0])) := by kernel_rfl
theorem sz_135 : (Tryz.prog.info? 135).map (·.size) = some 5 := by kernel_rfl
theorem fl_135_0 : Fld Tryz.prog 135 0 0 := ⟨_, _, 0, Tryz.underlying135, rfl, rfl, by kernel_rfl⟩
theorem ca_71 : Callable Tryz.prog 71 := ⟨_, _, Tryz.func71, rfl, rfl⟩
theorem fl_132_1 : Fld Tryz.prog 132 1 4 := ⟨_, _, 0, Tryz.underlying132, rfl, rfl, by kernel_rfl⟩
theorem one_128 : TyOne Tryz.prog 128 := ⟨⟨_, Tryz.underlying128, rfl⟩, by kernel_rfl⟩
theorem ca_72 : Callable Tryz.prog 72 := ⟨_, _, Tryz.func72, rfl, rfl⟩
theorem bu_135_0_1_2 (v0 : Value) (v1 : Value) (v2_0 v2_1 v2_2 : Value) (h0 : v0.cells = #[v0]) (h1 : v1.cells = #[v1]) (w : World) : (Instr.build 135 #[(0, v0), (1, v1), (2, .agg #[v2_0, v2_1, v2_2])]).run Tryz.prog w = .ok (.agg #[v0, v1, v2_0, v2_1, v2_2]) w := by
 have hz := @ze_135
 exact Go.Eng.run_build (pl := [(0, 1), (1, 1), (2, 3)]) hz Tryz.underlying135 (by kernel_rfl) rfl (by simp [Instr.fill, h0, h1, cells_agg]) w
theorem ca_73 : Callable Tryz.prog 73 := ⟨_, _, Tryz.func73, rfl, rfl⟩
end FRoom3
open FRoom3
theorem rmay_spec {A : HP} {h : SH} {ws : List Wr} (hv : Vis A (Rd eWr h ws)) (hb : ws.length ≤ 1000000) : Does Tryz.prog 34 [h.v] [A] (fun v l => v = .bool (mayW ws) ∧ l = [A]) := by
 refine spec_of Tryz.func34 rfl Tryz.ntmps34 Tryz.results34 _ (by simp) fun ι F => ?_
 refine vc_see 0 rfl (hv.imp fun w r => r.len) (fun hlen => ?_)
 refine vc_seq ?_
 refine vc_region ?_
 refine vp ?_
 refine vc_nil ?_
 refine vc_then ?_
 refine vc_seq ?_
 refine vc_seq ?_
 refine vc_region ?_
 refine vp ?_
 refine vc_y (y_len Tryz.underlying35 rfl (by first | assumption | rfl)) rfl ?_
 refine vp ?_
 refine vc_nil ?_
 refine vc_then ?_
 refine vc_block ?_
 refine vc_loop (α := Nat) (fun xq_ => match xq_ with | i => [(0, h.v), (5, h.v), (6, .int .i64 (ws.length : Int)), (7, .int .i64 (i : Int))]) (fun xq_ => match xq_ with | i => [A]) (fun xq_ => match xq_ with | i => ws.length - i) (fun xq_ => match xq_ with | i => i ≤ ws.length ∧ mayFrom none ws = mayFrom (lastK ws i) (ws.drop i)) 0 ⟨Nat.zero_le _, rfl⟩ ⟨rfl, rfl, rfl, rfl, trivial⟩ (ent_pick [0] rfl) ?_
 rintro i ⟨hi, hch⟩
 show VC _ _ _ _ [(0, h.v), (5, h.v), (6, .int .i64 (ws.length : Int)), (7, .int .i64 (i : Int))] ([A])
 refine vc_seq ?_
 refine vc_region ?_
 refine vp ?_
 refine vc_nil ?_
 refine vc_then ?_
 refine vc_seq ?_
 first | refine vc_condP rfl (fun c8 => ?_) (fun c8 => ?_) | refine vc_condN rfl (fun c8 => ?_) (fun c8 => ?_) | refine vc_cond rfl (fun c8 => ?_) (fun c8 => ?_)
 ·skip
  have hi2 : i < ws.length := by omega
  have hch2 : mayFrom none ws = (wrRight ws[i] && (lkLt (lastK ws i) ws[i].key && mayFrom (some ws[i].key) (ws.drop (i + 1)))) := by rw [hch, List.drop_eq_getElem_cons hi2]; rfl
  refine vc_skip ?_
  refine vc_then ?_
  refine vc_seq ?_
  refine vc_block ?_
  refine vc_seq ?_
  refine vc_region ?_
  refine vp ?_
  refine vc_y (y_elem 0 rfl (hv) i rfl hi2 sl_35 rfl rfl) rfl ?_
  refine vc_y (y_loadA 0 rfl (cs := [_, _, _, _, _]) ag_97 rfl (Rd.visA (hv) (List.getElem?_eq_getElem (by first | assumption | omega)) rfl)) rfl ?_
  refine vc_alloc [.string ⟨#[]⟩, .bool false, .bool false, .string ⟨#[]⟩, .int .u64 0] ze_97 rfl rfl (fun b4 => ?_)
  refine vp ?_
  refine vc_storeP 0 rfl [_, _, _, _, _] [_, _, _, _, _] rfl rfl rfl sz_97 rfl rfl rfl ?_
  refine vc_nil ?_
  refine vc_then ?_
  refine vc_seq ?_
  refine vc_draw (by kernel_rfl) _ none [0, 0] rfl ?_
  refine tp 0 rfl (by exact y_fieldP fl_97_0 0 rfl rfl) ?_
  refine tk 1 rfl (by exact y_load1 0 rfl one_9 rfl (Pts.vis rfl)) ?_
  refine va_ready [2] (by kernel_rfl) rfl ?_
  refine vo_cons rfl (fun hC0 => ?_) ?_
  ·skip
   refine vc_callv ca_86 (us := []) (vs := []) rfl [_] rfl [] rfl (rkey_spec _) rfl ?_
   rintro _ _ ⟨rfl, rfl⟩
   refine vc_nil ?_
   refine vc_then ?_
   refine va_kept hC0 [0, 0] rfl ?_
   clear hC0
   refine tpp 3 ?_
   refine tpp 4 ?_
   first | refine va_splitP 16 rfl (fun c16 => ?_) (fun c16 => ?_) | refine va_splitN 16 rfl (fun c16 => ?_) (fun c16 => ?_) | refine va_split 16 rfl (fun c16 => ?_) (fun c16 => ?_)
   ·skip
    have hk : wkeyOk ws[i].key = false := notT c16
    have hwr : wrRight ws[i] = false := by simp [wrRight, hk]
    refine sk 5 16 ?_
    refine sk 6 16 ?_
    refine sk 7 16 ?_
    refine sk 8 16 ?_
    refine tpp 9 ?_
    refine tpp 10 ?_
    refine sk 11 22 ?_
    refine sk 12 22 ?_
    refine sk 13 22 ?_
    refine sku 14 25 ?_
    refine sku 15 25 ?_
    refine sku 16 25 ?_
    refine sku 17 25 ?_
    refine sk 18 22 ?_
    refine tpp 19 ?_
    refine tpp 20 ?_
    refine sk 21 32 ?_
    refine sk 22 32 ?_
    refine sk 23 32 ?_
    refine sku 24 35 ?_
    refine sku 25 35 ?_
    refine sku 26 35 ?_
    refine sku 27 35 ?_
    refine sku 28 35 ?_
    refine sku 29 35 ?_
    refine sku 30 35 ?_
    refine sku 31 35 ?_
    refine sku 32 35 ?_
    refine sk 33 32 ?_
    refine tpp 34 ?_
    refine va_done (by kernel_rfl) ?_
    refine vc_then ?_
    refine vc_condT rfl ?_
    refine vc_seq ?_
    refine vc_region ?_
    refine vp ?_
    refine vc_nil ?_
    refine vc_then ?_
    refine vc_ret ?_
    refine vc_inRet ?_
    refine vc_thenRet ?_
    refine vc_thenRet ?_
    refine vc_inRet ?_
    refine vc_thenRet ?_
    exact vc_end1 Tryz.results34 rfl _ (ent_pick [1] rfl) ⟨by first | (unfold mayW; rw [hch, List.drop_length, show mayFrom (lastK ws ws.length) [] = true from rfl, Bool.true_and]) | (unfold mayW; rw [hch2, hwr]; rfl) | (unfold mayW; rw [hch2, hls]; simp [lkLt, hlt]), rfl⟩
   ·skip
    have hk : wkeyOk ws[i].key = true := notF c16
    refine tg 5 16 rfl (by exact y_fieldP fl_97_2 2 rfl rfl) ?_
    refine tkg 6 16 rfl (by exact y_loadA 0 rfl (cs := [_, _, _]) ag_45 rfl (Pts.visA rfl)) ?_
    refine va_ready [7] (by kernel_rfl) rfl ?_
    refine vo_cons rfl (fun hC0 => ?_) ?_
    ·skip
     refine vc_guardT 16 rfl rfl ?_
     refine vc_callv ca_87 (us := []) (vs := []) rfl [_] rfl [] rfl (vright_spec ws[i].val) rfl ?_
     rintro _ _ ⟨rfl, rfl⟩
     refine vc_nil ?_
     refine vc_then ?_
     refine va_kept hC0 [0, 0] rfl ?_
     clear hC0
     refine tgp 8 16 ?_
     refine tpp 9 ?_
     refine tpp 10 ?_
     first | refine va_splitP 22 rfl (fun c22 => ?_) (fun c22 => ?_) | refine va_splitN 22 rfl (fun c22 => ?_) (fun c22 => ?_) | refine va_split 22 rfl (fun c22 => ?_) (fun c22 => ?_)
     ·skip
      have hvr : valRight ws[i].val = false := notT c22
      have hwr : wrRight ws[i] = false := by simp [wrRight, hvr]
      refine sk 11 22 ?_
      refine sk 12 22 ?_
      refine sk 13 22 ?_
      refine sku 14 25 ?_
      refine sku 15 25 ?_
      refine sku 16 25 ?_
      refine sku 17 25 ?_
      refine sk 18 22 ?_
      refine tpp 19 ?_
      refine tpp 20 ?_
      refine sk 21 32 ?_
      refine sk 22 32 ?_
      refine sk 23 32 ?_
      refine sku 24 35 ?_
      refine sku 25 35 ?_
      refine sku 26 35 ?_
      refine sku 27 35 ?_
      refine sku 28 35 ?_
      refine sku 29 35 ?_
      refine sku 30 35 ?_
      refine sku 31 35 ?_
      refine sku 32 35 ?_
      refine sk 33 32 ?_
      refine tpp 34 ?_
      refine va_done (by kernel_rfl) ?_
      refine vc_then ?_
      refine vc_condT rfl ?_
      refine vc_seq ?_
      refine vc_region ?_
      refine vp ?_
      refine vc_nil ?_
      refine vc_then ?_
      refine vc_ret ?_
      refine vc_inRet ?_
      refine vc_thenRet ?_
      refine vc_thenRet ?_
      refine vc_inRet ?_
      refine vc_thenRet ?_
      exact vc_end1 Tryz.results34 rfl _ (ent_pick [1] rfl) ⟨by first | (unfold mayW; rw [hch, List.drop_length, show mayFrom (lastK ws ws.length) [] = true from rfl, Bool.true_and]) | (unfold mayW; rw [hch2, hwr]; rfl) | (unfold mayW; rw [hch2, hls]; simp [lkLt, hlt]), rfl⟩
     ·skip
      have hvr : valRight ws[i].val = true := notF c22
      refine tg 11 22 rfl (by exact y_fieldP fl_97_1 1 rfl rfl) ?_
      refine tkg 12 22 rfl (by exact y_load1 0 rfl one_4 rfl (Pts.vis rfl)) ?_
      refine tgp 13 22 ?_
      first | refine va_splitP 25 rfl (fun c25 => ?_) (fun c25 => ?_) | refine va_splitN 25 rfl (fun c25 => ?_) (fun c25 => ?_) | refine va_split 25 rfl (fun c25 => ?_) (fun c25 => ?_)
      ·skip
       refine tg 14 25 rfl (by exact y_fieldP fl_97_2 2 rfl rfl) ?_
       refine tkg 15 25 rfl (by exact y_loadA 0 rfl (cs := [_, _, _]) ag_45 rfl (Pts.visA rfl)) ?_
       refine tg 16 25 rfl (by exact y_build [] [_, _, _] rfl (bu_45_n  )) ?_
       refine tg 17 25 rfl (by exact y_neS eg_45 (eqv_45 _ _ _ _ _ _) rfl rfl) ?_
       refine tgp 18 22 ?_
       refine tpp 19 ?_
       refine tpp 20 ?_
       first | refine va_splitP 32 rfl (fun c32 => ?_) (fun c32 => ?_) | refine va_splitN 32 rfl (fun c32 => ?_) (fun c32 => ?_) | refine va_split 32 rfl (fun c32 => ?_) (fun c32 => ?_)
       ·skip
        have hz : valEq ws[i].val val0 = false := notT c32
        have hwr : wrRight ws[i] = false := by simp [wrRight, hz, show ws[i].gone = true from c25]
        refine sk 21 32 ?_
        refine sk 22 32 ?_
        refine sk 23 32 ?_
        refine sku 24 35 ?_
        refine sku 25 35 ?_
        refine sku 26 35 ?_
        refine sku 27 35 ?_
        refine sku 28 35 ?_
        refine sku 29 35 ?_
        refine sku 30 35 ?_
        refine sku 31 35 ?_
        refine sku 32 35 ?_
        refine sk 33 32 ?_
        refine tpp 34 ?_
        refine va_done (by kernel_rfl) ?_
        refine vc_then ?_
        refine vc_condT rfl ?_
        refine vc_seq ?_
        refine vc_region ?_
        refine vp ?_
        refine vc_nil ?_
        refine vc_then ?_
        refine vc_ret ?_
        refine vc_inRet ?_
        refine vc_thenRet ?_
        refine vc_thenRet ?_
        refine vc_inRet ?_
        refine vc_thenRet ?_
        exact vc_end1 Tryz.results34 rfl _ (ent_pick [1] rfl) ⟨by first | (unfold mayW; rw [hch, List.drop_length, show mayFrom (lastK ws ws.length) [] = true from rfl, Bool.true_and]) | (unfold mayW; rw [hch2, hwr]; rfl) | (unfold mayW; rw [hch2, hls]; simp [lkLt, hlt]), rfl⟩
       ·skip
        have hz : valEq ws[i].val val0 = true := notF c32
        have hwr : wrRight ws[i] = true := by simp [wrRight, hk, hvr, hz]
        refine tgp 21 32 ?_
        refine tgp 22 32 ?_
        refine tgp 23 32 ?_
        first | refine va_splitP 35 rfl (fun c35 => ?_) (fun c35 => ?_) | refine va_splitN 35 rfl (fun c35 => ?_) (fun c35 => ?_) | refine va_split 35 rfl (fun c35 => ?_) (fun c35 => ?_)
        ·skip
         have hls := lastK_pos (xs := ws) (i := i) (by omega) (by omega)
         refine tgp 24 35 ?_
         refine tgp 25 35 ?_
         first | refine tg 26 35 rfl (by exact y_arith _ rfl (wrapNsub (by omega))) ?_ | refine tg 26 35 rfl (by exact y_arith _ rfl (wrap64 (by omega) (by omega))) ?_ | refine tgp 26 35 ?_
         refine tkg 27 35 rfl (by exact y_elem 1 rfl (hv) (i - 1) rfl (by omega) sl_35 rfl rfl) ?_
         refine tg 28 35 rfl (by exact y_fieldE fl_97_0 0 rfl rfl) ?_
         refine tkg 29 35 rfl (by exact y_load1 1 rfl one_9 rfl (Rd.vis1 (hv) (List.getElem?_eq_getElem (by first | assumption | omega)) rfl)) ?_
         refine tg 30 35 rfl (by exact y_fieldP fl_97_0 0 rfl rfl) ?_
         refine tkg 31 35 rfl (by exact y_load1 0 rfl one_9 rfl (Pts.vis rfl)) ?_
         refine tgp 32 35 ?_
         refine tgp 33 32 ?_
         refine tpp 34 ?_
         refine va_done (by kernel_rfl) ?_
         refine vc_then ?_
         first | refine vc_condP rfl (fun c46 => ?_) (fun c46 => ?_) | refine vc_condN rfl (fun c46 => ?_) (fun c46 => ?_) | refine vc_cond rfl (fun c46 => ?_) (fun c46 => ?_)
         ·skip
          have hlt : sLt (ws[i - 1]'(by omega)).key ws[i].key = false := notT c46
          refine vc_seq ?_
          refine vc_region ?_
          refine vp ?_
          refine vc_nil ?_
          refine vc_then ?_
          refine vc_ret ?_
          refine vc_inRet ?_
          refine vc_thenRet ?_
          refine vc_thenRet ?_
          refine vc_inRet ?_
          refine vc_thenRet ?_
          exact vc_end1 Tryz.results34 rfl _ (ent_pick [1] rfl) ⟨by first | (unfold mayW; rw [hch, List.drop_length, show mayFrom (lastK ws ws.length) [] = true from rfl, Bool.true_and]) | (unfold mayW; rw [hch2, hwr]; rfl) | (unfold mayW; rw [hch2, hls]; simp [lkLt, hlt]), rfl⟩
         ·skip
          have hlt : sLt (ws[i - 1]'(by omega)).key ws[i].key = true := notF c46
          refine vc_skip ?_
          refine vc_inNormal ?_
          refine vc_then ?_
          refine vc_region ?_
          first | refine vc_y (y_arith _ rfl (wrapNadd (by omega))) rfl ?_ | refine vc_y (y_arith _ rfl (wrap64 (by omega) (by omega))) rfl ?_ | refine vp ?_
          refine vp ?_
          refine vc_nil ?_
          refine vc_then ?_
          exact vc_again (x := i) (i + 1) ⟨hi2, by rw [hch2, lastK_succ hi2, hwr, hls]; simp [lkLt, *]⟩ (by show ws.length - (i + 1) < ws.length - i; omega) ⟨rfl, rfl, rfl, rfl, trivial⟩ (ent_pick [1] rfl)
        ·skip
         have hls : lastK ws i = none := by
          obtain rfl : i = 0 := by omega
          rfl
         refine sk 24 35 ?_
         refine sk 25 35 ?_
         refine sk 26 35 ?_
         refine sk 27 35 ?_
         refine sk 28 35 ?_
         refine sk 29 35 ?_
         refine sk 30 35 ?_
         refine sk 31 35 ?_
         refine sk 32 35 ?_
         refine tgp 33 32 ?_
         refine tpp 34 ?_
         refine va_done (by kernel_rfl) ?_
         refine vc_then ?_
         refine vc_condF rfl ?_
         refine vc_skip ?_
         refine vc_inNormal ?_
         refine vc_then ?_
         refine vc_region ?_
         first | refine vc_y (y_arith _ rfl (wrapNadd (by omega))) rfl ?_ | refine vc_y (y_arith _ rfl (wrap64 (by omega) (by omega))) rfl ?_ | refine vp ?_
         refine vp ?_
         refine vc_nil ?_
         refine vc_then ?_
         exact vc_again (x := i) (i + 1) ⟨hi2, by rw [hch2, lastK_succ hi2, hwr, hls]; simp [lkLt, *]⟩ (by show ws.length - (i + 1) < ws.length - i; omega) ⟨rfl, rfl, rfl, rfl, trivial⟩ (ent_pick [1] rfl)
      ·skip
       have hwr : wrRight ws[i] = true := by simp [wrRight, hk, hvr, show ws[i].gone = false from c25]
       refine sk 14 25 ?_
       refine sk 15 25 ?_
       refine sk 16 25 ?_
       refine sk 17 25 ?_
       refine tgp 18 22 ?_
       refine tpp 19 ?_
       refine tpp 20 ?_
       refine tgp 21 32 ?_
       refine tgp 22 32 ?_
       refine tgp 23 32 ?_
       first | refine va_splitP 35 rfl (fun c35 => ?_) (fun c35 => ?_) | refine va_splitN 35 rfl (fun c35 => ?_) (fun c35 => ?_) | refine va_split 35 rfl (fun c35 => ?_) (fun c35 => ?_)
       ·skip
        have hls := lastK_pos (xs := ws) (i := i) (by omega) (by omega)
        refine tgp 24 35 ?_
        refine tgp 25 35 ?_
        first | refine tg 26 35 rfl (by exact y_arith _ rfl (wrapNsub (by omega))) ?_ | refine tg 26 35 rfl (by exact y_arith _ rfl (wrap64 (by omega) (by omega))) ?_ | refine tgp 26 35 ?_
        refine tkg 27 35 rfl (by exact y_elem 1 rfl (hv) (i - 1) rfl (by omega) sl_35 rfl rfl) ?_
        refine tg 28 35 rfl (by exact y_fieldE fl_97_0 0 rfl rfl) ?_
        refine tkg 29 35 rfl (by exact y_load1 1 rfl one_9 rfl (Rd.vis1 (hv) (List.getElem?_eq_getElem (by first | assumption | omega)) rfl)) ?_
        refine tg 30 35 rfl (by exact y_fieldP fl_97_0 0 rfl rfl) ?_
        refine tkg 31 35 rfl (by exact y_load1 0 rfl one_9 rfl (Pts.vis rfl)) ?_
        refine tgp 32 35 ?_
        refine tgp 33 32 ?_
        refine tpp 34 ?_
        refine va_done (by kernel_rfl) ?_
        refine vc_then ?_
        first | refine vc_condP rfl (fun c46 => ?_) (fun c46 => ?_) | refine vc_condN rfl (fun c46 => ?_) (fun c46 => ?_) | refine vc_cond rfl (fun c46 => ?_) (fun c46 => ?_)
        ·skip
         have hlt : sLt (ws[i - 1]'(by omega)).key ws[i].key = false := notT c46
         refine vc_seq ?_
         refine vc_region ?_
         refine vp ?_
         refine vc_nil ?_
         refine vc_then ?_
         refine vc_ret ?_
         refine vc_inRet ?_
         refine vc_thenRet ?_
         refine vc_thenRet ?_
         refine vc_inRet ?_
         refine vc_thenRet ?_
         exact vc_end1 Tryz.results34 rfl _ (ent_pick [1] rfl) ⟨by first | (unfold mayW; rw [hch, List.drop_length, show mayFrom (lastK ws ws.length) [] = true from rfl, Bool.true_and]) | (unfold mayW; rw [hch2, hwr]; rfl) | (unfold mayW; rw [hch2, hls]; simp [lkLt, hlt]), rfl⟩
        ·skip
         have hlt : sLt (ws[i - 1]'(by omega)).key ws[i].key = true := notF c46
         refine vc_skip ?_
         refine vc_inNormal ?_
         refine vc_then ?_
         refine vc_region ?_
         first | refine vc_y (y_arith _ rfl (wrapNadd (by omega))) rfl ?_ | refine vc_y (y_arith _ rfl (wrap64 (by omega) (by omega))) rfl ?_ | refine vp ?_
         refine vp ?_
         refine vc_nil ?_
         refine vc_then ?_
         exact vc_again (x := i) (i + 1) ⟨hi2, by rw [hch2, lastK_succ hi2, hwr, hls]; simp [lkLt, *]⟩ (by show ws.length - (i + 1) < ws.length - i; omega) ⟨rfl, rfl, rfl, rfl, trivial⟩ (ent_pick [1] rfl)
       ·skip
        have hls : lastK ws i = none := by
         obtain rfl : i = 0 := by omega
         rfl
        refine sk 24 35 ?_
        refine sk 25 35 ?_
        refine sk 26 35 ?_
        refine sk 27 35 ?_
        refine sk 28 35 ?_
        refine sk 29 35 ?_
        refine sk 30 35 ?_
        refine sk 31 35 ?_
        refine sk 32 35 ?_
        refine tgp 33 32 ?_
        refine tpp 34 ?_
        refine va_done (by kernel_rfl) ?_
        refine vc_then ?_
        refine vc_condF rfl ?_
        refine vc_skip ?_
        refine vc_inNormal ?_
        refine vc_then ?_
        refine vc_region ?_
        first | refine vc_y (y_arith _ rfl (wrapNadd (by omega))) rfl ?_ | refine vc_y (y_arith _ rfl (wrap64 (by omega) (by omega))) rfl ?_ | refine vp ?_
        refine vp ?_
        refine vc_nil ?_
        refine vc_then ?_
        exact vc_again (x := i) (i + 1) ⟨hi2, by rw [hch2, lastK_succ hi2, hwr, hls]; simp [lkLt, *]⟩ (by show ws.length - (i + 1) < ws.length - i; omega) ⟨rfl, rfl, rfl, rfl, trivial⟩ (ent_pick [1] rfl)
    exact vo_nil
  exact vo_nil
 ·skip
  obtain rfl : i = ws.length := by omega
  refine vc_exit ?_
  refine vc_thenExit ?_
  refine vc_thenExit ?_
  refine vc_inExit ?_
  refine vc_then ?_
  refine vc_seq ?_
  refine vc_region ?_
  refine vp ?_
  refine vc_y (y_len Tryz.underlying35 rfl (by first | assumption | rfl)) rfl ?_
  refine vc_callv ca_84 (us := []) (vs := []) rfl [_, _, _] rfl [] rfl (within_spec _ _ _) rfl ?_
  rintro _ _ ⟨rfl, rfl⟩
  refine vp ?_
  refine vc_nil ?_
  refine vc_then ?_
  refine vc_ret ?_
  exact vc_end1 Tryz.results34 rfl _ (ent_pick [0] rfl) ⟨by first | (unfold mayW; rw [hch, List.drop_length, show mayFrom (lastK ws ws.length) [] = true from rfl, Bool.true_and]) | (unfold mayW; rw [hch2, hwr]; rfl) | (unfold mayW; rw [hch2, hls]; simp [lkLt, hlt]), rfl⟩
theorem rspace0 {b : Nat} {X : RmX} {I : RmI} (rel : RmRel X I) (ok : X.ok) {A : HP} {h : SH} {ws : List Wr} (hv : Vis A (Rd eWr h ws)) (hws : ws.length ≤ 16 ∧ ∀ w ∈ ws, w.key.size ≤ 32) : Does Tryz.prog 71 [.pointer (some ⟨b, 0, none⟩), h.v] (RmO b X I ++ [A]) (fun v l => v = .int .i64 (spaceE X ws) ∧ l = RmO b X I ++ [A]) := by
 refine spec_of Tryz.func71 rfl Tryz.ntmps71 Tryz.results71 _ (by simp) fun ι F => ?_
 obtain ⟨hml, hmk⟩ := hws
 have hlv := ok.live
 have hle := ok.le
 have hmo := ok.mo
 have hqq := ok.q
 refine vc_see 7 rfl (hv.imp fun w r => r.len) (fun hlen => ?_)
 refine vc_seq ?_
 refine vc_region ?_
 refine vp ?_
 refine vc_nil ?_
 refine vc_then ?_
 refine vc_seq ?_
 refine vc_seq ?_
 refine vc_draw (by kernel_rfl) _ none [0] rfl ?_
 refine tpp 0 ?_
 refine tpp 2 ?_
 refine tpp 3 ?_
 refine tp 4 rfl (by exact y_fieldP fl_132_0 0 rfl rfl) ?_
 refine tp 5 rfl (by exact y_fieldP fl_24_3 3 rfl rfl) ?_
 refine tk 6 rfl (by exact y_load1 0 rfl one_3 rfl (Pts.vis rfl)) ?_
 refine va_ready [1] (by kernel_rfl) rfl ?_
 refine vo_cons rfl (fun hC0 => ?_) ?_
 ·skip
  refine vc_callv ca_16 (us := []) (vs := []) rfl [_] rfl [0, 0, 0, 0, 0, 0, 0] rfl (rseq0 rel ok) rfl ?_
  rintro _ _ ⟨rfl, rfl⟩
  refine vc_nil ?_
  refine vc_then ?_
  refine va_kept hC0 [0] rfl ?_
  clear hC0
  refine tpp 7 ?_
  refine va_done (by kernel_rfl) ?_
  refine vc_then ?_
  first | refine vc_condP rfl (fun c15 => ?_) (fun c15 => ?_) | refine vc_condN rfl (fun c15 => ?_) (fun c15 => ?_) | refine vc_cond rfl (fun c15 => ?_) (fun c15 => ?_)
  ·skip
   refine vc_seq ?_
   refine vc_region ?_
   refine vp ?_
   refine vc_nil ?_
   refine vc_then ?_
   refine vc_ret ?_
   refine vc_thenRet ?_
   exact vc_end1 Tryz.results71 rfl _ (ent_pick [0, 0, 0, 0, 0, 0, 0, 0] rfl) ⟨by simp only [spaceE]; rw [if_pos c15], rfl⟩
  ·skip
   refine vc_skip ?_
   refine vc_then ?_
   refine vc_seq ?_
   refine vc_region ?_
   refine vp ?_
   refine vp ?_
   refine vc_y (y_fieldP fl_132_5 8 rfl rfl) rfl ?_
   refine vc_y (y_load1 0 rfl one_3 rfl (Pts.vis rfl)) rfl ?_
   refine vp ?_
   refine vc_nil ?_
   refine vc_then ?_
   refine vc_seq ?_
   refine vc_seq ?_
   refine vc_region ?_
   refine vc_keep [(0, .pointer (some ⟨b, 0, none⟩)), (1, h.v), (5, .int .i64 (liveM X.M + addW X.M (ws.take 0)))] ⟨rfl, rfl, by simp only [List.take_zero, addW, Int.add_zero]; rfl, trivial⟩ ?_
   refine vp ?_
   refine vc_y (y_len Tryz.underlying35 rfl (by first | assumption | rfl)) rfl ?_
   refine vp ?_
   refine vc_nil ?_
   refine vc_then ?_
   refine vc_block ?_
   refine vc_loop (α := Nat) (fun xq_ => match xq_ with | i => [(0, .pointer (some ⟨b, 0, none⟩)), (1, h.v), (5, .int .i64 (liveM X.M + addW X.M (ws.take i))), (20, h.v), (21, .int .i64 (ws.length : Int)), (22, .int .i64 (i : Int))]) (fun xq_ => match xq_ with | i => RmO b X I ++ [A]) (fun xq_ => match xq_ with | i => ws.length - i) (fun xq_ => match xq_ with | i => i ≤ ws.length) 0 (Nat.zero_le _) ⟨rfl, rfl, rfl, rfl, rfl, rfl, trivial⟩ (ent_pick [0, 0, 0, 0, 0, 0, 0, 0] rfl) ?_
   rintro i hi
   show VC _ _ _ _ [(0, .pointer (some ⟨b, 0, none⟩)), (1, h.v), (5, .int .i64 (liveM X.M + addW X.M (ws.take i))), (20, h.v), (21, .int .i64 (ws.length : Int)), (22, .int .i64 (i : Int))] (RmO b X I ++ [A])
   refine vc_seq ?_
   refine vc_region ?_
   refine vp ?_
   refine vc_nil ?_
   refine vc_then ?_
   refine vc_seq ?_
   first | refine vc_condP rfl (fun c23 => ?_) (fun c23 => ?_) | refine vc_condN rfl (fun c23 => ?_) (fun c23 => ?_) | refine vc_cond rfl (fun c23 => ?_) (fun c23 => ?_)
   ·skip
    have hi2 : i < ws.length := by omega
    have hab := addW_bound (M := X.M) (ws := ws.take i) (fun w hw => hmk w (List.mem_of_mem_take hw))
    rw [List.length_take_of_le (by omega)] at hab
    have hki := hmk _ (List.getElem_mem hi2)
    have hll := lives_le (chainM X.M ws[i].key) hki
    have hvw := vWeight_le ws[i].val
    have hvo := rel.vis ws[i].key
    have hch := ok.chain ws[i].key
    have hsu := addW_succ (M := X.M) hi2
    refine vc_skip ?_
    refine vc_then ?_
    refine vc_seq ?_
    refine vc_block ?_
    refine vc_seq ?_
    refine vc_region ?_
    refine vc_y (y_elem 7 rfl (hv) i rfl hi2 sl_35 rfl rfl) rfl ?_
    refine vc_y (y_loadA 7 rfl (cs := [_, _, _, _, _]) ag_97 rfl (Rd.visA (hv) (List.getElem?_eq_getElem (by first | assumption | omega)) rfl)) rfl ?_
    refine vc_alloc [.string ⟨#[]⟩, .bool false, .bool false, .string ⟨#[]⟩, .int .u64 0] ze_97 rfl rfl (fun b7 => ?_)
    refine vc_storeP 0 rfl [_, _, _, _, _] [_, _, _, _, _] rfl rfl rfl sz_97 rfl rfl rfl ?_
    refine vc_nil ?_
    refine vc_then ?_
    refine vc_seq ?_
    refine vc_draw (by kernel_rfl) _ none [0] rfl ?_
    refine tpp 0 ?_
    refine tp 1 rfl (by exact y_fieldP fl_97_0 0 rfl rfl) ?_
    refine tk 2 rfl (by exact y_load1 0 rfl one_9 rfl (Pts.vis rfl)) ?_
    refine tpp 3 ?_
    refine tp 4 rfl (by exact y_fieldP fl_97_0 0 rfl rfl) ?_
    refine tk 5 rfl (by exact y_load1 0 rfl one_9 rfl (Pts.vis rfl)) ?_
    refine va_ready [6] (by kernel_rfl) rfl ?_
    refine vo_cons rfl (fun hC0 => ?_) ?_
    ·skip
     refine vc_callv ca_76 (us := []) (vs := []) rfl [_, _] rfl [1, 1, 1, 1, 1, 1, 1] rfl (rchain0 rel ws[i].key) rfl ?_
     rintro _ _ ⟨rfl, rfl⟩
     refine vc_nil ?_
     refine vc_then ?_
     refine va_kept hC0 [7] rfl ?_
     clear hC0
     refine va_ready [7] (by kernel_rfl) rfl ?_
     refine vo_cons rfl (fun hC0 => ?_) ?_
     ·skip
      refine vc_callv ca_120 (us := []) (vs := []) rfl [_, _] rfl [6] rfl (lives_spec hvo (by omega) (by omega)) rfl ?_
      rintro _ _ ⟨rfl, rfl⟩
      refine vc_nil ?_
      refine vc_then ?_
      refine va_kept hC0 [7] rfl ?_
      clear hC0
      first | refine tp 8 rfl (by exact y_arith _ rfl (wrap64 (by omega) (by omega))) ?_ | refine tpp 8 ?_
      refine tpp 9 ?_
      refine va_done (by kernel_rfl) ?_
      refine vc_then ?_
      refine vc_seq ?_
      refine vc_region ?_
      refine vc_y (y_fieldP fl_97_1 1 rfl rfl) rfl ?_
      refine vc_y (y_load1 7 rfl one_4 rfl (Pts.vis rfl)) rfl ?_
      refine vp ?_
      refine vc_nil ?_
      refine vc_then ?_
      first | refine vc_condP rfl (fun c37 => ?_) (fun c37 => ?_) | refine vc_condN rfl (fun c37 => ?_) (fun c37 => ?_) | refine vc_cond rfl (fun c37 => ?_) (fun c37 => ?_)
      ·skip
       have hg : ws[i].gone = false := notT c37
       have hs2 : liveM X.M + addW X.M (ws.take i) - lives ws[i].key (chainM X.M ws[i].key) + ((ws[i].key.size : Int) + vWeight ws[i].val) = liveM X.M + addW X.M (ws.take (i + 1)) := by rw [hsu]; simp only [wAdd, hg, Bool.false_eq_true, if_false]; omega
       refine vc_draw (by kernel_rfl) _ none [7] rfl ?_
       refine tpp 0 ?_
       refine tp 1 rfl (by exact y_fieldP fl_97_0 0 rfl rfl) ?_
       refine tk 2 rfl (by exact y_load1 0 rfl one_9 rfl (Pts.vis rfl)) ?_
       refine tp 3 rfl (by exact y_strLen Tryz.underlying9 rfl) ?_
       refine tp 4 rfl (by exact y_fieldP fl_97_2 2 rfl rfl) ?_
       refine tk 5 rfl (by exact y_loadA 0 rfl (cs := [_, _, _]) ag_45 rfl (Pts.visA rfl)) ?_
       refine va_ready [6] (by kernel_rfl) rfl ?_
       refine vo_cons rfl (fun hC0 => ?_) ?_
       ·skip
        refine vc_callv ca_113 (us := []) (vs := []) rfl [_] rfl [] rfl (vweight_spec ws[i].val) rfl ?_
        rintro _ _ ⟨rfl, rfl⟩
        refine vc_nil ?_
        refine vc_then ?_
        refine va_kept hC0 [7] rfl ?_
        clear hC0
        first | refine tp 7 rfl (by exact y_arith _ rfl (wrap64 (by omega) (by omega))) ?_ | refine tpp 7 ?_
        first | refine tp 8 rfl (by exact y_arith _ rfl (wrap64 (by omega) (by omega))) ?_ | refine tpp 8 ?_
        refine tpp 9 ?_
        refine va_done (by kernel_rfl) ?_
        refine vc_inNormal ?_
        refine vc_then ?_
        refine vc_region ?_
        refine vc_keep [(0, .pointer (some ⟨b, 0, none⟩)), (1, h.v), (5, .int .i64 (liveM X.M + addW X.M (ws.take (i + 1)))), (20, h.v), (21, .int .i64 (ws.length : Int)), (22, .int .i64 (i : Int))] ⟨rfl, rfl, by rw [← hs2]; rfl, rfl, rfl, rfl, trivial⟩ ?_
        first | refine vc_y (y_arith _ rfl (wrapNadd (by omega))) rfl ?_ | refine vc_y (y_arith _ rfl (wrap64 (by omega) (by omega))) rfl ?_ | refine vp ?_
        refine vp ?_
        refine vc_nil ?_
        refine vc_then ?_
        exact vc_again (x := i) (i + 1) hi2 (by show ws.length - (i + 1) < ws.length - i; omega) ⟨rfl, rfl, rfl, rfl, rfl, rfl, trivial⟩ (ent_pick [1, 1, 1, 1, 1, 1, 0, 1] rfl)
       exact vo_nil
      ·skip
       have hg : ws[i].gone = true := notF c37
       have hs2 : liveM X.M + addW X.M (ws.take i) - lives ws[i].key (chainM X.M ws[i].key) = liveM X.M + addW X.M (ws.take (i + 1)) := by rw [hsu]; simp only [wAdd, hg, if_true]; omega
       refine vc_skip ?_
       refine vc_inNormal ?_
       refine vc_then ?_
       refine vc_region ?_
       refine vc_keep [(0, .pointer (some ⟨b, 0, none⟩)), (1, h.v), (5, .int .i64 (liveM X.M + addW X.M (ws.take (i + 1)))), (20, h.v), (21, .int .i64 (ws.length : Int)), (22, .int .i64 (i : Int))] ⟨rfl, rfl, by rw [← hs2]; rfl, rfl, rfl, rfl, trivial⟩ ?_
       first | refine vc_y (y_arith _ rfl (wrapNadd (by omega))) rfl ?_ | refine vc_y (y_arith _ rfl (wrap64 (by omega) (by omega))) rfl ?_ | refine vp ?_
       refine vp ?_
       refine vc_nil ?_
       refine vc_then ?_
       exact vc_again (x := i) (i + 1) hi2 (by show ws.length - (i + 1) < ws.length - i; omega) ⟨rfl, rfl, rfl, rfl, rfl, rfl, trivial⟩ (ent_pick [1, 1, 1, 1, 1, 1, 0, 1] rfl)
     exact vo_nil
    exact vo_nil
   ·skip
    obtain rfl : i = ws.length := by omega
    have hall : liveM X.M + addW X.M (ws.take ws.length) = liveM X.M + addW X.M ws := by rw [List.take_length]
    refine vc_exit ?_
    refine vc_thenExit ?_
    refine vc_thenExit ?_
    refine vc_inExit ?_
    refine vc_then ?_
    refine vc_seq ?_
    refine vc_seq ?_
    refine vc_region ?_
    iterate 3 refine vp ?_
    refine vc_y (y_fieldP fl_132_0 0 rfl rfl) rfl ?_
    refine vc_y (y_fieldP fl_24_2 2 rfl rfl) rfl ?_
    refine vc_y (y_load1 0 rfl one_3 rfl (Pts.vis rfl)) rfl ?_
    refine vp ?_
    refine vc_nil ?_
    refine vc_then ?_
    first | refine vc_condP rfl (fun c54 => ?_) (fun c54 => ?_) | refine vc_condN rfl (fun c54 => ?_) (fun c54 => ?_) | refine vc_cond rfl (fun c54 => ?_) (fun c54 => ?_)
    ·skip
     refine vc_seq ?_
     refine vc_region ?_
     refine vp ?_
     refine vc_nil ?_
     refine vc_then ?_
     refine vc_ret ?_
     refine vc_thenRet ?_
     exact vc_end1 Tryz.results71 rfl _ (ent_pick [0, 0, 0, 0, 0, 0, 0, 0] rfl) ⟨by simp only [spaceE]; rw [if_neg c15, if_pos (by rw [← hall]; exact c54)], rfl⟩
    ·skip
     refine vc_skip ?_
     refine vc_then ?_
     refine vc_seq ?_
     refine vc_region ?_
     refine vp ?_
     refine vc_nil ?_
     refine vc_then ?_
     refine vc_ret ?_
     exact vc_end1 Tryz.results71 rfl _ (ent_pick [0, 0, 0, 0, 0, 0, 0, 0] rfl) ⟨by simp only [spaceE]; rw [if_neg c15, if_neg (by rw [← hall]; exact c54)], rfl⟩
 exact vo_nil
theorem rcheck0 {b : Nat} {X : RmX} {I : RmI} (rel : RmRel X I) (ok : X.ok) {A : HP} {h : SH} {ws : List Wr} (hv : Vis A (Rd eWr h ws)) (hb : ws.length ≤ 1000000) (seq : Int) : Does Tryz.prog 21 [.pointer (some ⟨b, 0, none⟩), h.v, .int .i64 seq] (RmO b X I ++ [A]) (fun v l => v = .int .i64 (checkE X ws seq) ∧ l = RmO b X I ++ [A]) := by
 refine spec_of Tryz.func21 rfl Tryz.ntmps21 Tryz.results21 _ (by simp) fun ι F => ?_
 refine vc_see 7 rfl (hv.imp fun w r => r.len) (fun hlen => ?_)
 refine vc_seq ?_
 refine vc_region ?_
 refine vp ?_
 refine vc_nil ?_
 refine vc_then ?_
 refine vc_seq ?_
 refine vc_block ?_
 refine vc_seq ?_
 refine vc_region ?_
 refine vp ?_
 refine vc_y (y_eqNil ep_28 rfl rfl) rfl ?_
 refine vp ?_
 refine vc_nil ?_
 refine vc_then ?_
 refine vc_condF rfl ?_
 refine vc_seq ?_
 refine vc_region ?_
 refine vp ?_
 refine vc_callv ca_34 (us := []) (vs := []) rfl [_] rfl [7] rfl (rmay_spec hv hb) rfl ?_
 rintro _ _ ⟨rfl, rfl⟩
 refine vp ?_
 refine vp ?_
 refine vc_nil ?_
 refine vc_then ?_
 first | refine vc_condP rfl (fun c14 => ?_) (fun c14 => ?_) | refine vc_condN rfl (fun c14 => ?_) (fun c14 => ?_) | refine vc_cond rfl (fun c14 => ?_) (fun c14 => ?_)
 ·skip
  have hmay : mayW ws = false := notT c14
  refine vc_seq ?_
  refine vc_region ?_
  refine vp ?_
  refine vc_nil ?_
  refine vc_then ?_
  refine vc_ret ?_
  refine vc_inRet ?_
  refine vc_thenRet ?_
  exact vc_end1 Tryz.results21 rfl _ (ent_pick [1, 1, 1, 1, 1, 1, 1, 0] rfl) ⟨by first | (simp only [checkE, hmay, hwi, hcf, conflW, if_true]; rfl) | (simp only [checkE, hmay, hwi, hc2, hvl, decide_eq_true hlt, Bool.true_or, if_true]) | (simp only [checkE, hmay, hwi]; rfl) | (simp only [checkE, hmay]; rfl), rfl⟩
 ·skip
  have hmay : mayW ws = true := notF c14
  have hmm : ws.length ≤ 16 ∧ ∀ w ∈ ws, w.key.size ≤ 32 := by
   have h0 := hmay
   simp only [mayW, Bool.and_eq_true, decide_eq_true_eq] at h0
   exact ⟨by omega, fun w hw => (wr_key (mayFrom_mem h0.1 w hw)).2⟩
  refine vc_seq ?_
  refine vc_region ?_
  refine vp ?_
  refine vp ?_
  refine vc_callv ca_18 (us := []) (vs := []) rfl [_] rfl [1, 1, 1, 1, 1, 1, 1] rfl (rfloor0 rel ok) rfl ?_
  rintro _ _ ⟨rfl, rfl⟩
  refine vp ?_
  refine vc_callv ca_16 (us := []) (vs := []) rfl [_] rfl [0, 0, 0, 0, 0, 0, 0] rfl (rseq0 rel ok) rfl ?_
  rintro _ _ ⟨rfl, rfl⟩
  refine vc_callv ca_84 (us := []) (vs := []) rfl [_, _, _] rfl [] rfl (within_spec _ _ _) rfl ?_
  rintro _ _ ⟨rfl, rfl⟩
  refine vp ?_
  refine vp ?_
  refine vc_nil ?_
  refine vc_then ?_
  first | refine vc_condP rfl (fun c18 => ?_) (fun c18 => ?_) | refine vc_condN rfl (fun c18 => ?_) (fun c18 => ?_) | refine vc_cond rfl (fun c18 => ?_) (fun c18 => ?_)
  ·skip
   have hwi : (decide (X.R.floor ≤ seq) && decide (seq ≤ X.R.seq)) = false := notT c18
   refine vc_seq ?_
   refine vc_region ?_
   refine vp ?_
   refine vc_nil ?_
   refine vc_then ?_
   refine vc_ret ?_
   refine vc_inRet ?_
   refine vc_thenRet ?_
   exact vc_end1 Tryz.results21 rfl _ (ent_pick [0, 0, 0, 0, 0, 0, 0, 0] rfl) ⟨by first | (simp only [checkE, hmay, hwi, hcf, conflW, if_true]; rfl) | (simp only [checkE, hmay, hwi, hc2, hvl, decide_eq_true hlt, Bool.true_or, if_true]) | (simp only [checkE, hmay, hwi]; rfl) | (simp only [checkE, hmay]; rfl), rfl⟩
  ·skip
   have hwi : (decide (X.R.floor ≤ seq) && decide (seq ≤ X.R.seq)) = true := notF c18
   refine vc_skip ?_
   refine vc_inNormal ?_
   refine vc_then ?_
   refine vc_seq ?_
   refine vc_seq ?_
   refine vc_region ?_
   refine vp ?_
   refine vc_y (y_len Tryz.underlying35 rfl (by first | assumption | rfl)) rfl ?_
   refine vp ?_
   refine vc_nil ?_
   refine vc_then ?_
   refine vc_block ?_
   refine vc_loop (α := Nat) (fun xq_ => match xq_ with | i => [(0, .pointer (some ⟨b, 0, none⟩)), (1, h.v), (2, .int .i64 seq), (26, h.v), (27, .int .i64 (ws.length : Int)), (28, .int .i64 (i : Int))]) (fun xq_ => match xq_ with | i => RmO b X I ++ [A]) (fun xq_ => match xq_ with | i => ws.length - i) (fun xq_ => match xq_ with | i => i ≤ ws.length ∧ conflW X.M seq ws = conflW X.M seq (ws.drop i)) 0 ⟨Nat.zero_le _, rfl⟩ ⟨rfl, rfl, rfl, rfl, rfl, rfl, trivial⟩ (ent_pick [0, 0, 0, 0, 0, 0, 0, 0] rfl) ?_
   rintro i ⟨hi, hcf⟩
   show VC _ _ _ _ [(0, .pointer (some ⟨b, 0, none⟩)), (1, h.v), (2, .int .i64 seq), (26, h.v), (27, .int .i64 (ws.length : Int)), (28, .int .i64 (i : Int))] (RmO b X I ++ [A])
   refine vc_seq ?_
   refine vc_region ?_
   refine vp ?_
   refine vc_nil ?_
   refine vc_then ?_
   refine vc_seq ?_
   first | refine vc_condP rfl (fun c29 => ?_) (fun c29 => ?_) | refine vc_condN rfl (fun c29 => ?_) (fun c29 => ?_) | refine vc_cond rfl (fun c29 => ?_) (fun c29 => ?_)
   ·skip
    have hi2 : i < ws.length := by omega
    have hvo := rel.vis ws[i].key
    have hch := ok.chain ws[i].key
    have hc2 : conflW X.M seq ws = ((match verLast (chainM X.M ws[i].key) with | some v => decide (seq < v.seq) | none => false) || conflW X.M seq (ws.drop (i + 1))) := by rw [hcf, List.drop_eq_getElem_cons hi2]; rfl
    refine vc_skip ?_
    refine vc_then ?_
    refine vc_seq ?_
    refine vc_block ?_
    refine vc_seq ?_
    refine vc_region ?_
    refine vc_y (y_elem 7 rfl (hv) i rfl hi2 sl_35 rfl rfl) rfl ?_
    refine vc_y (y_loadA 7 rfl (cs := [_, _, _, _, _]) ag_97 rfl (Rd.visA (hv) (List.getElem?_eq_getElem (by first | assumption | omega)) rfl)) rfl ?_
    refine vc_alloc [.string ⟨#[]⟩, .bool false, .bool false, .string ⟨#[]⟩, .int .u64 0] ze_97 rfl rfl (fun b8 => ?_)
    refine vc_storeP 0 rfl [_, _, _, _, _] [_, _, _, _, _] rfl rfl rfl sz_97 rfl rfl rfl ?_
    refine vc_nil ?_
    refine vc_then ?_
    refine vc_seq ?_
    refine vc_region ?_
    refine vp ?_
    refine vc_y (y_fieldP fl_97_0 0 rfl rfl) rfl ?_
    refine vc_y (y_load1 0 rfl one_9 rfl (Pts.vis rfl)) rfl ?_
    refine vc_callv ca_76 (us := []) (vs := []) rfl [_, _] rfl [1, 1, 1, 1, 1, 1, 1] rfl (rchain0 rel ws[i].key) rfl ?_
    rintro _ _ ⟨rfl, rfl⟩
    refine vc_callv ca_85 (us := []) (vs := []) rfl [_] rfl [6] rfl (Last_spec hvo (by omega)) rfl ?_
    rintro _ _ ⟨rfl, rfl⟩
    iterate 3 refine vp ?_
    refine vc_alloc [.int .i64 0, .bool false, .bool false, .string ⟨#[]⟩, .int .u64 0] ze_135 rfl rfl (fun b9 => ?_)
    refine vc_storeP 0 rfl [_, _, _, _, _] [_, _, _, _, _] rfl rfl rfl sz_135 rfl rfl rfl ?_
    refine vp ?_
    refine vc_nil ?_
    refine vc_then ?_
    refine vc_seq ?_
    refine vc_region ?_
    refine vp ?_
    refine vp ?_
    first | refine vc_splitP 41 rfl (fun c41 => ?_) (fun c41 => ?_) | refine vc_splitN 41 rfl (fun c41 => ?_) (fun c41 => ?_) | refine vc_split 41 rfl (fun c41 => ?_) (fun c41 => ?_)
    ·skip
     obtain ⟨v, hvl⟩ : ∃ v, verLast (chainM X.M ws[i].key) = some v := by
      cases h0 : verLast (chainM X.M ws[i].key) with
      | none => rw [h0] at c41; cases c41
      | some v => exact ⟨v, rfl⟩
     rw [hvl]
     refine vc_guardT 41 rfl rfl ?_
     refine vc_y (y_fieldP fl_135_0 0 rfl rfl) rfl ?_
     refine vc_guardT 41 rfl rfl ?_
     refine vc_y (y_load1 0 rfl one_3 rfl (Pts.vis rfl)) rfl ?_
     refine vc_guardT 41 rfl rfl ?_
     refine vp ?_
     refine vc_guardT 41 rfl rfl ?_
     refine vp ?_
     refine vp ?_
     refine vc_nil ?_
     refine vc_then ?_
     first | refine vc_condP rfl (fun c46 => ?_) (fun c46 => ?_) | refine vc_condN rfl (fun c46 => ?_) (fun c46 => ?_) | refine vc_cond rfl (fun c46 => ?_) (fun c46 => ?_)
     ·skip
      have hlt : seq < v.seq := c46
      refine vc_seq ?_
      refine vc_region ?_
      refine vp ?_
      refine vc_nil ?_
      refine vc_then ?_
      refine vc_ret ?_
      refine vc_inRet ?_
      refine vc_thenRet ?_
      refine vc_thenRet ?_
      refine vc_inRet ?_
      refine vc_thenRet ?_
      exact vc_end1 Tryz.results21 rfl _ (ent_pick [2, 2, 2, 2, 2, 2, 1, 2] rfl) ⟨by first | (simp only [checkE, hmay, hwi, hcf, conflW, if_true]; rfl) | (simp only [checkE, hmay, hwi, hc2, hvl, decide_eq_true hlt, Bool.true_or, if_true]) | (simp only [checkE, hmay, hwi]; rfl) | (simp only [checkE, hmay]; rfl), rfl⟩
     ·skip
      have hlt : ¬ seq < v.seq := c46
      refine vc_skip ?_
      refine vc_inNormal ?_
      refine vc_then ?_
      refine vc_region ?_
      first | refine vc_y (y_arith _ rfl (wrapNadd (by omega))) rfl ?_ | refine vc_y (y_arith _ rfl (wrap64 (by omega) (by omega))) rfl ?_ | refine vp ?_
      refine vp ?_
      refine vc_nil ?_
      refine vc_then ?_
      exact vc_again (x := i) (i + 1) ⟨hi2, by rw [hc2, hvl]; simp [*]⟩ (by show ws.length - (i + 1) < ws.length - i; omega) ⟨rfl, rfl, rfl, rfl, rfl, rfl, trivial⟩ (ent_pick [2, 2, 2, 2, 2, 2, 1, 2] rfl)
    ·skip
     have hvl : verLast (chainM X.M ws[i].key) = none := by
      cases h0 : verLast (chainM X.M ws[i].key) with
      | none => rfl
      | some v => rw [h0] at c41; cases c41
     refine vc_guardF 41 rfl rfl rfl rfl ?_
     refine vc_guardF 41 rfl rfl rfl rfl ?_
     refine vc_guardF 41 rfl rfl rfl rfl ?_
     refine vc_guardF 41 rfl rfl rfl rfl ?_
     refine vp ?_
     refine vc_nil ?_
     refine vc_then ?_
     refine vc_condF rfl ?_
     refine vc_skip ?_
     refine vc_inNormal ?_
     refine vc_then ?_
     refine vc_region ?_
     first | refine vc_y (y_arith _ rfl (wrapNadd (by omega))) rfl ?_ | refine vc_y (y_arith _ rfl (wrap64 (by omega) (by omega))) rfl ?_ | refine vp ?_
     refine vp ?_
     refine vc_nil ?_
     refine vc_then ?_
     exact vc_again (x := i) (i + 1) ⟨hi2, by rw [hc2, hvl]; simp [*]⟩ (by show ws.length - (i + 1) < ws.length - i; omega) ⟨rfl, rfl, rfl, rfl, rfl, rfl, trivial⟩ (ent_pick [2, 2, 2, 2, 2, 2, 1, 2] rfl)
   ·skip
    obtain rfl : i = ws.length := by omega
    rw [List.drop_length] at hcf
    refine vc_exit ?_
    refine vc_thenExit ?_
    refine vc_thenExit ?_
    refine vc_inExit ?_
    refine vc_then ?_
    refine vc_seq ?_
    refine vc_region ?_
    refine vp ?_
    refine vp ?_
    refine vc_callv ca_71 (us := []) (vs := []) rfl [_, _] rfl [0, 0, 0, 0, 0, 0, 0, 0] rfl (rspace0 rel ok hv hmm) rfl ?_
    rintro _ _ ⟨rfl, rfl⟩
    refine vp ?_
    refine vc_nil ?_
    refine vc_then ?_
    refine vc_ret ?_
    exact vc_end1 Tryz.results21 rfl _ (ent_pick [0, 0, 0, 0, 0, 0, 0, 0] rfl) ⟨by first | (simp only [checkE, hmay, hwi, hcf, conflW, if_true]; rfl) | (simp only [checkE, hmay, hwi, hc2, hvl, decide_eq_true hlt, Bool.true_or, if_true]) | (simp only [checkE, hmay, hwi]; rfl) | (simp only [checkE, hmay]; rfl), rfl⟩
theorem rcommit0 {b : Nat} {X : RmX} {I : RmI} (rel : RmRel X I) (ok : X.ok) {A : HP} {h : SH} {ws : List Wr} (hv : Vis A (Rd eWr h ws)) (hb : ws.length ≤ 1000000) (stamp : Int) (hbg : X.R.seq - X.R.begin < 900000) (hle : X.M.length + ws.length ≤ 100000 ∨ mayW ws = false) : Does Tryz.prog 15 [.pointer (some ⟨b, 0, none⟩), h.v, .int .u64 stamp] (RmO b X I ++ [A]) (fun v l => v = .tuple #[.int .i64 (commitX X ws stamp).1, .int .i64 (commitX X ws stamp).2.1] ∧ l = [RoomC b (commitX X ws stamp).2.2, A]) := by
 refine spec_of Tryz.func15 rfl Tryz.ntmps15 Tryz.results15 _ (by simp) fun ι F => ?_
 refine vc_see 7 rfl (hv.imp fun w r => r.len) (fun hlen => ?_)
 refine vc_seq ?_
 refine vc_region ?_
 refine vp ?_
 refine vp ?_
 refine vc_nil ?_
 refine vc_then ?_
 refine vc_seq ?_
 refine vc_block ?_
 refine vc_seq ?_
 refine vc_region ?_
 refine vp ?_
 refine vc_y (y_eqNil ep_28 rfl rfl) rfl ?_
 refine vp ?_
 refine vc_nil ?_
 refine vc_then ?_
 refine vc_condF rfl ?_
 refine vc_seq ?_
 refine vc_region ?_
 refine vp ?_
 refine vc_callv ca_34 (us := []) (vs := []) rfl [_] rfl [7] rfl (rmay_spec hv hb) rfl ?_
 rintro _ _ ⟨rfl, rfl⟩
 refine vp ?_
 refine vp ?_
 refine vc_nil ?_
 refine vc_then ?_
 first | refine vc_condP rfl (fun c17 => ?_) (fun c17 => ?_) | refine vc_condN rfl (fun c17 => ?_) (fun c17 => ?_) | refine vc_cond rfl (fun c17 => ?_) (fun c17 => ?_)
 ·skip
  have hmay : mayW ws = false := notT c17
  have hco : commitX X ws stamp = (0, 1, X) := by simp [commitX, hmay]
  refine vc_seq ?_
  refine vc_region ?_
  refine vp ?_
  refine vp ?_
  refine vc_nil ?_
  refine vc_then ?_
  refine vc_ret ?_
  refine vc_inRet ?_
  refine vc_thenRet ?_
  exact vc_end2 Tryz.results15 rfl rfl _ (ent_at [1, 1, 1, 1, 1, 1, 1, 0] rfl (ent_RmO rel (r := [A]))) ⟨by rw [hco], by rw [hco]⟩
 ·skip
  have hmay : mayW ws = true := notF c17
  have hmm : ws.length ≤ 16 ∧ ∀ w ∈ ws, w.key.size ≤ 32 := by
   have h0 := hmay
   simp only [mayW, Bool.and_eq_true, decide_eq_true_eq] at h0
   exact ⟨by omega, fun w hw => (wr_key (mayFrom_mem h0.1 w hw)).2⟩
  refine vc_skip ?_
  refine vc_inNormal ?_
  refine vc_then ?_
  refine vc_seq ?_
  refine vc_seq ?_
  refine vc_region ?_
  refine vp ?_
  refine vp ?_
  refine vc_callv ca_71 (us := []) (vs := []) rfl [_, _] rfl [1, 1, 1, 1, 1, 1, 1, 0] rfl (rspace0 rel ok hv hmm) rfl ?_
  rintro _ _ ⟨rfl, rfl⟩
  refine vp ?_
  refine vc_nil ?_
  refine vc_then ?_
  refine vc_seq ?_
  refine vc_region ?_
  refine vp ?_
  refine vp ?_
  refine vc_nil ?_
  refine vc_then ?_
  first | refine vc_condP rfl (fun c25 => ?_) (fun c25 => ?_) | refine vc_condN rfl (fun c25 => ?_) (fun c25 => ?_) | refine vc_cond rfl (fun c25 => ?_) (fun c25 => ?_)
  ·skip
   have hsp : spaceE X ws ≠ 0 := by first | exact c25 | simpa using c25
   have hco : commitX X ws stamp = (0, spaceE X ws, X) := by simp [commitX, hmay, hsp]
   refine vc_seq ?_
   refine vc_region ?_
   iterate 3 refine vp ?_
   refine vc_nil ?_
   refine vc_then ?_
   refine vc_ret ?_
   refine vc_thenRet ?_
   exact vc_end2 Tryz.results15 rfl rfl _ (ent_at [0, 0, 0, 0, 0, 0, 0, 0] rfl (ent_RmO rel (r := [A]))) ⟨by rw [hco], by rw [hco]⟩
  ·skip
   have hsp : spaceE X ws = 0 := by first | exact c25 | simpa using c25
   refine vc_skip ?_
   refine vc_then ?_
   refine vc_seq ?_
   refine vc_region ?_
   refine vp ?_
   refine vp ?_
   refine vc_y (y_fieldP fl_132_1 4 rfl rfl) rfl ?_
   refine vc_y (y_load1 0 rfl one_128 rfl (Pts.vis rfl)) rfl ?_
   refine vp ?_
   refine vc_callv ca_72 (us := []) (vs := []) rfl [_, _] rfl [2] rfl (ring_push ok.rg stamp) rfl ?_
   rintro _ _ ⟨rfl, rfl⟩
   iterate 5 refine vp ?_
   refine vc_nil ?_
   refine vc_then ?_
   refine vc_seq ?_
   refine vc_seq ?_
   refine vc_region ?_
   refine vp ?_
   refine vp ?_
   refine vc_nil ?_
   refine vc_then ?_
   first | refine vc_condP rfl (fun c37 => ?_) (fun c37 => ?_) | refine vc_condN rfl (fun c37 => ?_) (fun c37 => ?_) | refine vc_cond rfl (fun c37 => ?_) (fun c37 => ?_)
   ·skip
    have hpe : (pushR X.R stamp).2.1 ≠ 0 := by first | exact c37 | simpa using c37
    have hco : commitX X ws stamp = (0, (pushR X.R stamp).2.1, X) := by simp [commitX, hmay, hsp, hpe]
    have hpR : (pushR X.R stamp).2.2 = X.R := by
     have h0 := hpe
     unfold pushR at h0 ⊢
     split
     ·rfl
     ·split
      ·rfl
      ·rename_i h1 h2; exact absurd (by rw [if_neg h1, if_neg h2]) h0
    refine vc_seq ?_
    refine vc_region ?_
    iterate 3 refine vp ?_
    refine vc_nil ?_
    refine vc_then ?_
    refine vc_ret ?_
    refine vc_thenRet ?_
    exact vc_end2 Tryz.results15 rfl rfl _ (ent_at [1, 1, 0, 0, 0, 0, 0, 0] rfl (ent_RmO (X := ⟨X.label, X.ring, X.quota, X.most, (pushR X.R stamp).2.2, X.M⟩) (I := I) ⟨rel.m, rel.pos, rel.perm, rel.hl, rel.le⟩ (r := [A]))) ⟨by rw [hco], by rw [hco, hpR]⟩
   ·skip
    have hpe : (pushR X.R stamp).2.1 = 0 := by first | exact c37 | simpa using c37
    obtain ⟨R', hR'⟩ : ∃ R', R' = (pushR X.R stamp).2.2 := ⟨_, rfl⟩
    have hps : R'.seq = X.R.seq + 1 ∧ R'.begin = X.R.begin ∧ R'.size = X.R.size ∧ (pushR X.R stamp).1 = R'.seq := by
     rw [hR']
     unfold pushR at hpe ⊢
     split
     ·rename_i h1; rw [if_pos h1] at hpe; cases hpe
     ·split
      ·rename_i h1 h2; rw [if_neg h1, if_pos h2] at hpe; cases hpe
      ·exact ⟨rfl, rfl, rfl, rfl⟩
    have hmf : mayFrom none ws = true := by simp only [mayW, Bool.and_eq_true] at hmay; exact hmay.1
    have hsm : X.R.seq < X.most := by
     unfold spaceE at hsp
     split at hsp
     ·cases hsp
     ·omega
    have hH : PutsH X R' ws := ⟨ok, hR' ▸ push_ok ok.rg stamp, hps.1, hps.2.1, hps.2.2.1, by omega, by omega, hmf, hle.resolve_right (by rw [hmay]; simp)⟩
    have hco : commitX X ws stamp = (R'.seq, 0, ⟨X.label, X.ring, X.quota, X.most, R', mPuts X.M R'.seq ws⟩) := by simp only [commitX, hmay, hsp, hpe, if_true]; rw [hps.2.2.2, ← hR']
    rw [← hR', hps.2.2.2]
    refine vc_skip ?_
    refine vc_then ?_
    refine vc_seq ?_
    refine vc_seq ?_
    refine vc_region ?_
    refine vc_ent (l' := [RoomC b ⟨X.label, X.ring, X.quota, X.most, R', mPuts X.M R'.seq (ws.take 0)⟩, A]) (ent_at [1, 1, 0, 0, 0, 0, 0, 0] rfl (ent_RmO (b := b) (X := ⟨X.label, X.ring, X.quota, X.most, R', mPuts X.M R'.seq (ws.take 0)⟩) (I := I) ⟨rel.m, rel.pos, rel.perm, rel.hl, rel.le⟩ (r := [A]))) ?_
    refine vp ?_
    refine vc_y (y_len Tryz.underlying35 rfl (by first | assumption | rfl)) rfl ?_
    refine vp ?_
    refine vc_nil ?_
    refine vc_then ?_
    refine vc_block ?_
    refine vc_loop (α := Nat) (fun xq_ => match xq_ with | i => [(0, .pointer (some ⟨b, 0, none⟩)), (1, h.v), (9, .int .i64 R'.seq), (39, h.v), (40, .int .i64 (ws.length : Int)), (41, .int .i64 (i : Int))]) (fun xq_ => match xq_ with | i => [RoomC b ⟨X.label, X.ring, X.quota, X.most, R', mPuts X.M R'.seq (ws.take i)⟩, A]) (fun xq_ => match xq_ with | i => ws.length - i) (fun xq_ => match xq_ with | i => i ≤ ws.length ∧ Puts X R' R'.seq ws i) 0 ⟨Nat.zero_le _, hH.zero⟩ ⟨rfl, rfl, rfl, rfl, rfl, rfl, trivial⟩ (ent_pick [0, 0] rfl) ?_
    rintro i ⟨hi, hpi⟩
    show VC _ _ _ _ [(0, .pointer (some ⟨b, 0, none⟩)), (1, h.v), (9, .int .i64 R'.seq), (39, h.v), (40, .int .i64 (ws.length : Int)), (41, .int .i64 (i : Int))] ([RoomC b ⟨X.label, X.ring, X.quota, X.most, R', mPuts X.M R'.seq (ws.take i)⟩, A])
    refine vc_seq ?_
    refine vc_region ?_
    refine vp ?_
    refine vc_nil ?_
    refine vc_then ?_
    refine vc_seq ?_
    first | refine vc_condP rfl (fun c42 => ?_) (fun c42 => ?_) | refine vc_condN rfl (fun c42 => ?_) (fun c42 => ?_) | refine vc_cond rfl (fun c42 => ?_) (fun c42 => ?_)
    ·skip
     have hi2 : i < ws.length := by omega
     refine vc_skip ?_
     refine vc_then ?_
     refine vc_seq ?_
     refine vc_block ?_
     refine vc_seq ?_
     refine vc_region ?_
     refine vc_y (y_elem 1 rfl (hv) i rfl hi2 sl_35 rfl rfl) rfl ?_
     refine vc_y (y_loadA 1 rfl (cs := [_, _, _, _, _]) ag_97 rfl (Rd.visA (hv) (List.getElem?_eq_getElem (by first | assumption | omega)) rfl)) rfl ?_
     refine vc_alloc [.string ⟨#[]⟩, .bool false, .bool false, .string ⟨#[]⟩, .int .u64 0] ze_97 rfl rfl (fun b12 => ?_)
     refine vc_storeP 0 rfl [_, _, _, _, _] [_, _, _, _, _] rfl rfl rfl sz_97 rfl rfl rfl ?_
     refine vc_nil ?_
     refine vc_then ?_
     refine vc_seq ?_
     refine vc_region ?_
     have hrt := hH.right hi2 hpi
     have hln := hpi.len
     have hle2 := hH.le
     refine vc_room 1 rfl (fun J relJ => ?_)
     refine vp ?_
     refine vc_y (y_fieldP fl_97_0 0 rfl rfl) rfl ?_
     refine vc_y (y_load1 7 rfl one_9 rfl (Pts.vis rfl)) rfl ?_
     refine vp ?_
     refine vc_y (y_fieldP fl_97_1 1 rfl rfl) rfl ?_
     refine vc_y (y_load1 7 rfl one_4 rfl (Pts.vis rfl)) rfl ?_
     refine vc_y (y_fieldP fl_97_2 2 rfl rfl) rfl ?_
     refine vc_y (y_loadA 7 rfl (cs := [_, _, _]) ag_45 rfl (Pts.visA rfl)) rfl ?_
     refine vc_y (y_build [(0, _), (1, _), (2, _)] [_, _, _, _, _] rfl (bu_135_0_1_2 _ _ _ _ _ rfl rfl)) rfl ?_
     refine vc_callv ca_73 (us := []) (vs := []) rfl [_, _, _] rfl [0, 0, 0, 0, 0, 0, 0] rfl (rput relJ hpi.ok (hmm.2 _ (List.getElem_mem hi2)) ⟨R'.seq, ws[i].gone, ws[i].val⟩ (by simp only; rw [hrt.1]; exact hrt.2) (by simp only; omega)) rfl ?_
     rintro _ _ ⟨rfl, rfl⟩
     refine vp ?_
     refine vc_nil ?_
     refine vc_then ?_
     refine vc_seq ?_
     refine vc_region ?_
     refine vp ?_
     refine vp ?_
     refine vc_nil ?_
     refine vc_then ?_
     first | refine vc_condP rfl (fun c56 => ?_) (fun c56 => ?_) | refine vc_condN rfl (fun c56 => ?_) (fun c56 => ?_) | refine vc_cond rfl (fun c56 => ?_) (fun c56 => ?_)
     ·skip
      simp at c56
     ·skip
      refine vc_skip ?_
      refine vc_inNormal ?_
      refine vc_then ?_
      refine vc_region ?_
      refine vc_re 0 rfl (congrArg (RoomC b) (congrArg (RmX.mk X.label X.ring X.quota X.most R') (mPuts_succ hi2).symm)) ?_
      first | refine vc_y (y_arith _ rfl (wrapNadd (by omega))) rfl ?_ | refine vc_y (y_arith _ rfl (wrap64 (by omega) (by omega))) rfl ?_ | refine vp ?_
      refine vp ?_
      refine vc_nil ?_
      refine vc_then ?_
      exact vc_again (x := i) (i + 1) ⟨hi2, hH.step hi2 hpi⟩ (by show ws.length - (i + 1) < ws.length - i; omega) ⟨rfl, rfl, rfl, rfl, rfl, rfl, trivial⟩ (ent_pick [0, 1] rfl)
    ·skip
     obtain rfl : i = ws.length := by omega
     rw [List.take_length]
     refine vc_exit ?_
     refine vc_thenExit ?_
     refine vc_thenExit ?_
     refine vc_inExit ?_
     refine vc_then ?_
     refine vc_seq ?_
     refine vc_region ?_
     iterate 3 refine vp ?_
     refine vc_nil ?_
     refine vc_then ?_
     refine vc_ret ?_
     exact vc_end2 Tryz.results15 rfl rfl _ (ent_pick [0, 0] rfl) ⟨by rw [hco], by rw [hco]⟩
theorem room_check {b : Nat} {X : RmX} (ok : X.ok) {A : HP} {h : SH} {ws : List Wr} (hv : Vis A (Rd eWr h ws)) (hb : ws.length ≤ 1000000) (seq : Int) : Does Tryz.prog 21 [.pointer (some ⟨b, 0, none⟩), h.v, .int .i64 seq] [RoomC b X, A] (fun v l => v = .int .i64 (checkE X ws seq) ∧ l = [RoomC b X, A]) :=
 room_does (r := [A]) fun I rel => Does.fin (rcheck0 rel ok hv hb seq) fun v l ⟨e, h⟩ => ⟨_, h ▸ ent_RmO rel (r := [A]), e, rfl⟩
theorem room_commit {b : Nat} {X : RmX} (ok : X.ok) {A : HP} {h : SH} {ws : List Wr} (hv : Vis A (Rd eWr h ws)) (hb : ws.length ≤ 1000000) (stamp : Int) (hbg : X.R.seq - X.R.begin < 900000) (hle : X.M.length + ws.length ≤ 100000 ∨ mayW ws = false) : Does Tryz.prog 15 [.pointer (some ⟨b, 0, none⟩), h.v, .int .u64 stamp] [RoomC b X, A] (fun v l => v = .tuple #[.int .i64 (commitX X ws stamp).1, .int .i64 (commitX X ws stamp).2.1] ∧ l = [RoomC b (commitX X ws stamp).2.2, A]) :=
 room_does (r := [A]) fun I rel => rcommit0 rel ok hv hb stamp hbg hle
end Go.Proofs.YtcpbibdbahfgaaaGreat
