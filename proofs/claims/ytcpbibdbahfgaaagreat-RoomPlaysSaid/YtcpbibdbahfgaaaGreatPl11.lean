/-
 Rooms: checks, commits.
-/
import Derived.Test.YtcpbibdbahfgaaaGreatPl10
import Derived.Test.YtcpbibdbahfgaaaGreatPl3
import Derived.Test.YtcpbibdbahfgaaaGreatPl2
import Derived.Laws.MakeOwn
set_option linter.unusedVariables false
set_option linter.unusedSimpArgs false
set_option autoImplicit false
set_option maxHeartbeats 4000000
namespace Go.Proofs.YtcpbibdbahfgaaaGreat
open Go.Eng
namespace FRoom3
theorem sl_35 : TySl Tryz.prog 35 97 5 := ⟨Tryz.underlying35, by kernel_rfl⟩
theorem ag_97 : TyAgg Tryz.prog 97 5 := ⟨⟨_, Tryz.underlying97, rfl⟩, by kernel_rfl⟩
theorem ze_97 : (Tryz.prog.info? 97).map (·.zero) = some (some (.agg #[.string ⟨#[]⟩, .bool false, .bool false, .string ⟨#[]⟩, .int .u64 0])) := by kernel_rfl
theorem sz_97 : (Tryz.prog.info? 97).map (·.size) = some 5 := by kernel_rfl
theorem fl_97_0 : Fld Tryz.prog 97 0 0 := ⟨_, _, 0, Tryz.underlying97, rfl, rfl, by kernel_rfl⟩
theorem one_9 : TyOne Tryz.prog 9 := ⟨⟨_, Tryz.underlying9, rfl⟩, by kernel_rfl⟩
theorem ca_86 : Callable Tryz.prog 86 := ⟨_, _, Tryz.func86, rfl, rfl⟩
theorem fl_97_2 : Fld Tryz.prog 97 2 2 := ⟨_, _, 2, Tryz.underlying97, rfl, rfl, by kernel_rfl⟩
theorem ag_45 : TyAgg Tryz.prog 45 3 := ⟨⟨_, Tryz.underlying45, rfl⟩, by kernel_rfl⟩
theorem ca_87 : Callable Tryz.prog 87 := ⟨_, _, Tryz.func87, rfl, rfl⟩
theorem fl_97_1 : Fld Tryz.prog 97 1 1 := ⟨_, _, 0, Tryz.underlying97, rfl, rfl, by kernel_rfl⟩
theorem one_4 : TyOne Tryz.prog 4 := ⟨⟨_, Tryz.underlying4, rfl⟩, by kernel_rfl⟩
theorem ze_45 : (Tryz.prog.info? 45).map (·.zero) = some (some (.agg #[.bool false, .string ⟨#[]⟩, .int .u64 0])) := by kernel_rfl
theorem bu_45_n   (w : World) : (Instr.build 45 #[]).run Tryz.prog w = .ok (.agg #[.bool false, .string ⟨#[]⟩, .int .u64 0]) w := by
 have hz := @ze_45
 exact Go.Eng.run_build (pl := [(0, 1), (1, 1), (2, 1)]) hz Tryz.underlying45 (by kernel_rfl) rfl (by simp [Instr.fill, cells_agg]) w
theorem eg_45 : Tryz.prog.eqGuardType Tryz.prog.depth 45 = false := by kernel_rfl
theorem ca_84 : Callable Tryz.prog 84 := ⟨_, _, Tryz.func84, rfl, rfl⟩
theorem fl_132_0 : Fld Tryz.prog 132 0 0 := ⟨_, _, 3, Tryz.underlying132, rfl, rfl, by kernel_rfl⟩
theorem fl_24_3 : Fld Tryz.prog 24 3 3 := ⟨_, _, 0, Tryz.underlying24, rfl, rfl, by kernel_rfl⟩
theorem one_3 : TyOne Tryz.prog 3 := ⟨⟨_, Tryz.underlying3, rfl⟩, by kernel_rfl⟩
theorem ca_16 : Callable Tryz.prog 16 := ⟨_, _, Tryz.func16, rfl, rfl⟩
theorem fl_132_5 : Fld Tryz.prog 132 5 8 := ⟨_, _, 0, Tryz.underlying132, rfl, rfl, by kernel_rfl⟩
theorem ca_76 : Callable Tryz.prog 76 := ⟨_, _, Tryz.func76, rfl, rfl⟩
theorem ca_120 : Callable Tryz.prog 120 := ⟨_, _, Tryz.func120, rfl, rfl⟩
theorem ca_113 : Callable Tryz.prog 113 := ⟨_, _, Tryz.func113, rfl, rfl⟩
theorem fl_24_2 : Fld Tryz.prog 24 2 2 := ⟨_, _, 0, Tryz.underlying24, rfl, rfl, by kernel_rfl⟩
theorem ep_28 : Tryz.prog.underlying 28 = some (.pointer (Tryz.prog.pointee 28)) := by kernel_rfl
theorem ca_34 : Callable Tryz.prog 34 := ⟨_, _, Tryz.func34, rfl, rfl⟩
theorem ca_18 : Callable Tryz.prog 18 := ⟨_, _, Tryz.func18, rfl, rfl⟩
theorem ca_85 : Callable Tryz.prog 85 := ⟨_, _, Tryz.func85, rfl, rfl⟩
theorem ze_135 : (Tryz.prog.info? 135).map (·.zero) = some (some (.agg #[.int .i64 0, .bool false, .bool false, .string ⟨#[]⟩, .int .u64 0])) := by kernel_rfl
theorem sz_135 : (Tryz.prog.info? 135).map (·.size) = some 5 := by kernel_rfl
theorem fl_135_0 : Fld Tryz.prog 135 0 0 := ⟨_, _, 0, Tryz.underlying135, rfl, rfl, by kernel_rfl⟩
theorem ca_71 : Callable Tryz.prog 71 := ⟨_, _, Tryz.func71, rfl, rfl⟩
theorem fl_132_1 : Fld Tryz.prog 132 1 4 := ⟨_, _, 0, Tryz.underlying132, rfl, rfl, by kernel_rfl⟩
theorem one_128 : TyOne Tryz.prog 128 := ⟨⟨_, Tryz.underlying128, rfl⟩, by kernel_rfl⟩
theorem ca_72 : Callable Tryz.prog 72 := ⟨_, _, Tryz.func72, rfl, rfl⟩
theorem bu_135_0_1_2 (v0 : Value) (v1 : Value) (v2_0 v2_1 v2_2 : Value) (h0 : v0.cells = #[v0]) (h1 : v1.cells = #[v1]) (w : World) : (Instr.build 135 #[(0, v0), (1, v1), (2, .agg #[v2_0, v2_1, v2_2])]).run Tryz.prog w = .ok (.agg #[v0, v1, v2_0, v2_1, v2_2]) w := by
 have hz := @ze_135
 exact Go.Eng.run_build (pl := [(0, 1), (1, 1), (2, 3)]) hz Tryz.underlying135 (by kernel_rfl) rfl (by simp [Instr.fill, h0, h1, cells_agg]) w
theorem ca_73 : Callable Tryz.prog 73 := ⟨_, _, Tryz.func73, rfl, rfl⟩
end FRoom3
open FRoom3
theorem rmay_spec {A : HP} {h : SH} {ws : List Wr} (hv : Vis A (Rd eWr h ws)) (hb : ws.length ≤ 1000000) : Does Tryz.prog 34 [h.v] [A] (fun v l => v = .bool (mayW ws) ∧ l = [A]) := by
 refine spec_of Tryz.func34 rfl Tryz.ntmps34 Tryz.results34 _ (by simp) fun ι F => ?_
 refine vc_see 0 rfl (hv.imp fun w r => r.len) (fun hlen => ?_)
 refine vc_seq ?_
 refine vc_region ?_
 refine vp ?_
 refine vc_nil ?_
 refine vc_then ?_
 refine vc_seq ?_
 refine vc_seq ?_
 refine vc_region ?_
 refine vp ?_
 refine vc_y (y_len Tryz.underlying35 rfl (by first | assumption | rfl)) rfl ?_
 refine vp ?_
 refine vc_nil ?_
 refine vc_then ?_
 refine vc_block ?_
 refine vc_loop (α := Nat) (fun xq_ => match xq_ with | i => [(0, h.v), (5, h.v), (6, .int .i64 (ws.length : Int)), (7, .int .i64 (i : Int))]) (fun xq_ => match xq_ with | i => [A]) (fun xq_ => match xq_ with | i => ws.length - i) (fun xq_ => match xq_ with | i => i ≤ ws.length ∧ mayFrom none ws = mayFrom (lastK ws i) (ws.drop i)) 0 ⟨Nat.zero_le _, rfl⟩ ⟨rfl, rfl, rfl, rfl, trivial⟩ (ent_pick [0] rfl) ?_
 rintro i ⟨hi, hch⟩
 show VC _ _ _ _ [(0, h.v), (5, h.v), (6, .int .i64 (ws.length : Int)), (7, .int .i64 (i : Int))] ([A])
 refine vc_seq ?_
 refine vc_region ?_
 refine vp ?_
 refine vc_nil ?_
 refine vc_then ?_
 refine vc_seq ?_
 first | refine vc_condP rfl (fun c8 => ?_) (fun c8 => ?_) | refine vc_condN rfl (fun c8 => ?_) (fun c8 => ?_) | refine vc_cond rfl (fun c8 => ?_) (fun c8 => ?_)
 ·skip
  have hi2 : i < ws.length := by omega
  have hch2 : mayFrom none ws = (wrRight ws[i] && (lkLt (lastK ws i) ws[i].key && mayFrom (some ws[i].key) (ws.drop (i + 1)))) := by rw [hch, List.drop_eq_getElem_cons hi2]; rfl
  refine vc_skip ?_
  refine vc_then ?_
  refine vc_seq ?_
  refine vc_block ?_
  refine vc_seq ?_
  refine vc_region ?_
  refine vp ?_
  refine vc_y (y_elem 0 rfl (hv) i rfl hi2 sl_35 rfl rfl) rfl ?_
  refine vc_y (y_loadA 0 rfl (cs := [_, _, _, _, _]) ag_97 rfl (Rd.visA (hv) (List.getElem?_eq_getElem (by first | assumption | omega)) rfl)) rfl ?_
  refine vc_alloc [.string ⟨#[]⟩, .bool false, .bool false, .string ⟨#[]⟩, .int .u64 0] ze_97 rfl rfl (fun b4 => ?_)
  refine vp ?_
  refine vc_storeP 0 rfl [_, _, _, _, _] [_, _, _, _, _] rfl rfl rfl sz_97 rfl rfl rfl ?_
  refine vc_nil ?_
  refine vc_then ?_
  refine vc_seq ?_
  refine vc_draw (by kernel_rfl) _ none [0, 0] rfl ?_
  refine tp 0 rfl (by exact y_fieldP fl_97_0 0 rfl rfl) ?_
  refine tk 1 rfl (by exact y_load1 0 rfl one_9 rfl (Pts.vis rfl)) ?_
  refine va_ready [2] (by kernel_rfl) rfl ?_
  refine vo_cons rfl (fun hC0 => ?_) ?_
  ·skip
   refine vc_callv ca_86 (us := []) (vs := []) rfl [_] rfl [] rfl (rkey_spec _) rfl ?_
   rintro _ _ ⟨rfl, rfl⟩
   refine vc_nil ?_
   refine vc_then ?_
   refine va_kept hC0 [0, 0] rfl ?_
   clear hC0
   refine tpp 3 ?_
   refine tpp 4 ?_
   first | refine va_splitP 16 rfl (fun c16 => ?_) (fun c16 => ?_) | refine va_splitN 16 rfl (fun c16 => ?_) (fun c16 => ?_) | refine va_split 16 rfl (fun c16 => ?_) (fun c16 => ?_)
   ·skip
    have hk : wkeyOk ws[i].key = false := notT c16
    have hwr : wrRight ws[i] = false := by simp [wrRight, hk]
    refine sk 5 16 ?_
    refine sk 6 16 ?_
    refine sk 7 16 ?_
    refine sk 8 16 ?_
    refine tpp 9 ?_
    refine tpp 10 ?_
    refine sk 11 22 ?_
    refine sk 12 22 ?_
    refine sk 13 22 ?_
    refine sku 14 25 ?_
    refine sku 15 25 ?_
    refine sku 16 25 ?_
    refine sku 17 25 ?_
    refine sk 18 22 ?_
    refine tpp 19 ?_
    refine tpp 20 ?_
    refine sk 21 32 ?_
    refine sk 22 32 ?_
    refine sk 23 32 ?_
    refine sku 24 35 ?_
    refine sku 25 35 ?_
    refine sku 26 35 ?_
    refine sku 27 35 ?_
    refine sku 28 35 ?_
    refine sku 29 35 ?_
    refine sku 30 35 ?_
    refine sku 31 35 ?_
    refine sku 32 35 ?_
    refine sk 33 32 ?_
    refine tpp 34 ?_
    refine va_done (by kernel_rfl) ?_
    refine vc_then ?_
    refine vc_condT rfl ?_
    refine vc_seq ?_
    refine vc_region ?_
    refine vp ?_
    refine vc_nil ?_
    refine vc_then ?_
    refine vc_ret ?_
    refine vc_inRet ?_
    refine vc_thenRet ?_
    refine vc_thenRet ?_
    refine vc_inRet ?_
    refine vc_thenRet ?_
    exact vc_end1 Tryz.results34 rfl _ (ent_pick [1] rfl) ⟨by first | (unfold mayW; rw [hch, List.drop_length, show mayFrom (lastK ws ws.length) [] = true from rfl, Bool.true_and]) | (unfold mayW; rw [hch2, hwr]; rfl) | (unfold mayW; rw [hch2, hls]; simp [lkLt, hlt]), rfl⟩
   ·skip
    have hk : wkeyOk ws[i].key = true := notF c16
    refine tg 5 16 rfl (by exact y_fieldP fl_97_2 2 rfl rfl) ?_
    refine tkg 6 16 rfl (by exact y_loadA 0 rfl (cs := [_, _, _]) ag_45 rfl (Pts.visA rfl)) ?_
    refine va_ready [7] (by kernel_rfl) rfl ?_
    refine vo_cons rfl (fun hC0 => ?_) ?_
    ·skip
     refine vc_guardT 16 rfl rfl ?_
     refine vc_callv ca_87 (us := []) (vs := []) rfl [_] rfl [] rfl (vright_spec ws[i].val) rfl ?_
     rintro _ _ ⟨rfl, rfl⟩
     refine vc_nil ?_
     refine vc_then ?_
     refine va_kept hC0 [0, 0] rfl ?_
     clear hC0
     refine tgp 8 16 ?_
     refine tpp 9 ?_
     refine tpp 10 ?_
     first | refine va_splitP 22 rfl (fun c22 => ?_) (fun c22 => ?_) | refine va_splitN 22 rfl (fun c22 => ?_) (fun c22 => ?_) | refine va_split 22 rfl (fun c22 => ?_) (fun c22 => ?_)
     ·skip
      have hvr : valRight ws[i].val = false := notT c22
      have hwr : wrRight ws[i] = false := by simp [wrRight, hvr]
      refine sk 11 22 ?_
      refine sk 12 22 ?_
      refine sk 13 22 ?_
      refine sku 14 25 ?_
      refine sku 15 25 ?_
      refine sku 16 25 ?_
      refine sku 17 25 ?_
      refine sk 18 22 ?_
      refine tpp 19 ?_
      refine tpp 20 ?_
      refine sk 21 32 ?_
      refine sk 22 32 ?_
      refine sk 23 32 ?_
      refine sku 24 35 ?_
      refine sku 25 35 ?_
      refine sku 26 35 ?_
      refine sku 27 35 ?_
      refine sku 28 35 ?_
      refine sku 29 35 ?_
      refine sku 30 35 ?_
      refine sku 31 35 ?_
      refine sku 32 35 ?_
      refine sk 33 32 ?_
      refine tpp 34 ?_
      refine va_done (by kernel_rfl) ?_
      refine vc_then ?_
      refine vc_condT rfl ?_
      refine vc_seq ?_
      refine vc_region ?_
      refine vp ?_
      refine vc_nil ?_
      refine vc_then ?_
      refine vc_ret ?_
      refine vc_inRet ?_
      refine vc_thenRet ?_
      refine vc_thenRet ?_
      refine vc_inRet ?_
      refine vc_thenRet ?_
      exact vc_end1 Tryz.results34 rfl _ (ent_pick [1] rfl) ⟨by first | (unfold mayW; rw [hch, List.drop_length, show mayFrom (lastK ws ws.length) [] = true from rfl, Bool.true_and]) | (unfold mayW; rw [hch2, hwr]; rfl) | (unfold mayW; rw [hch2, hls]; simp [lkLt, hlt]), rfl⟩
     ·skip
      have hvr : valRight ws[i].val = true := notF c22
      refine tg 11 22 rfl (by exact y_fieldP fl_97_1 1 rfl rfl) ?_
      refine tkg 12 22 rfl (by exact y_load1 0 rfl one_4 rfl (Pts.vis rfl)) ?_
      refine tgp 13 22 ?_
      first | refine va_splitP 25 rfl (fun c25 => ?_) (fun c25 => ?_) | refine va_splitN 25 rfl (fun c25 => ?_) (fun c25 => ?_) | refine va_split 25 rfl (fun c25 => ?_) (fun c25 => ?_)
      ·skip
       refine tg 14 25 rfl (by exact y_fieldP fl_97_2 2 rfl rfl) ?_
       refine tkg 15 25 rfl (by exact y_loadA 0 rfl (cs := [_, _, _]) ag_45 rfl (Pts.visA rfl)) ?_
       refine tg 16 25 rfl (by exact y_build [] [_, _, _] rfl (bu_45_n  )) ?_
       refine tg 17 25 rfl (by exact y_neS eg_45 (eqv_45 _ _ _ _ _ _) rfl rfl) ?_
       refine tgp 18 22 ?_
       refine tpp 19 ?_
       refine tpp 20 ?_
       first | refine va_splitP 32 rfl (fun c32 => ?_) (fun c32 => ?_) | refine va_splitN 32 rfl (fun c32 => ?_) (fun c32 => ?_) | refine va_split 32 rfl (fun c32 => ?_) (fun c32 => ?_)
       ·skip
        have hz : valEq ws[i].val val0 = false := notT c32
        have hwr : wrRight ws[i] = false := by simp [wrRight, hz, show ws[i].gone = true from c25]
        refine sk 21 32 ?_
        refine sk 22 32 ?_
        refine sk 23 32 ?_
        refine sku 24 35 ?_
        refine sku 25 35 ?_
        refine sku 26 35 ?_
        refine sku 27 35 ?_
        refine sku 28 35 ?_
        refine sku 29 35 ?_
        refine sku 30 35 ?_
        refine sku 31 35 ?_
        refine sku 32 35 ?_
        refine sk 33 32 ?_
        refine tpp 34 ?_
        refine va_done (by kernel_rfl) ?_
        refine vc_then ?_
        refine vc_condT rfl ?_
        refine vc_seq ?_
        refine vc_region ?_
        refine vp ?_
        refine vc_nil ?_
        refine vc_then ?_
        refine vc_ret ?_
        refine vc_inRet ?_
        refine vc_thenRet ?_
        refine vc_thenRet ?_
        refine vc_inRet ?_
        refine vc_thenRet ?_
        exact vc_end1 Tryz.results34 rfl _ (ent_pick [1] rfl) ⟨by first | (unfold mayW; rw [hch, List.drop_length, show mayFrom (lastK ws ws.length) [] = true from rfl, Bool.true_and]) | (unfold mayW; rw [hch2, hwr]; rfl) | (unfold mayW; rw [hch2, hls]; simp [lkLt, hlt]), rfl⟩
       ·skip
        have hz : valEq ws[i].val val0 = true := notF c32
        have hwr : wrRight ws[i] = true := by simp [wrRight, hk, hvr, hz]
        refine tgp 21 32 ?_
        refine tgp 22 32 ?_
        refine tgp 23 32 ?_
        first | refine va_splitP 35 rfl (fun c35 => ?_) (fun c35 => ?_) | refine va_splitN 35 rfl (fun c35 => ?_) (fun c35 => ?_) | refine va_split 35 rfl (fun c35 => ?_) (fun c35 => ?_)
        ·skip
         have hls := lastK_pos (xs := ws) (i := i) (by omega) (by omega)
         refine tgp 24 35 ?_
         refine tgp 25 35 ?_
         first | refine tg 26 35 rfl (by exact y_arith _ rfl (wrapNsub (by omega))) ?_ | refine tg 26 35 rfl (by exact y_arith _ rfl (wrap64 (by omega) (by omega))) ?_ | refine tgp 26 35 ?_
         refine tkg 27 35 rfl (by exact y_elem 1 rfl (hv) (i - 1) rfl (by omega) sl_35 rfl rfl) ?_
         refine tg 28 35 rfl (by exact y_fieldE fl_97_0 0 rfl rfl) ?_
         refine tkg 29 35 rfl (by exact y_load1 1 rfl one_9 rfl (Rd.vis1 (hv) (List.getElem?_eq_getElem (by first | assumption | omega)) rfl)) ?_
         refine tg 30 35 rfl (by exact y_fieldP fl_97_0 0 rfl rfl) ?_
         refine tkg 31 35 rfl (by exact y_load1 0 rfl one_9 rfl (Pts.vis rfl)) ?_
         refine tgp 32 35 ?_
         refine tgp 33 32 ?_
         refine tpp 34 ?_
         refine va_done (by kernel_rfl) ?_
         refine vc_then ?_
         first | refine vc_condP rfl (fun c46 => ?_) (fun c46 => ?_) | refine vc_condN rfl (fun c46 => ?_) (fun c46 => ?_) | refine vc_cond rfl (fun c46 => ?_) (fun c46 => ?_)
         ·skip
          have hlt : sLt (ws[i - 1]'(by omega)).key ws[i].key = false := notT c46
          refine vc_seq ?_
          refine vc_region ?_
          refine vp ?_
          refine vc_nil ?_
          refine vc_then ?_
          refine vc_ret ?_
          refine vc_inRet ?_
          refine vc_thenRet ?_
          refine vc_thenRet ?_
          refine vc_inRet ?_
          refine vc_thenRet ?_
          exact vc_end1 Tryz.results34 rfl _ (ent_pick [1] rfl) ⟨by first | (unfold mayW; rw [hch, List.drop_length, show mayFrom (lastK ws ws.length) [] = true from rfl, Bool.true_and]) | (unfold mayW; rw [hch2, hwr]; rfl) | (unfold mayW; rw [hch2, hls]; simp [lkLt, hlt]), rfl⟩
         ·skip
          have hlt : sLt (ws[i - 1]'(by omega)).key ws[i].key = true := notF c46
          refine vc_skip ?_
          refine vc_inNormal ?_
          refine vc_then ?_
          refine vc_region ?_
          first | refine vc_y (y_arith _ rfl (wrapNadd (by omega))) rfl ?_ | refine vc_y (y_arith _ rfl (wrap64 (by omega) (by omega))) rfl ?_ | refine vp ?_
          refine vp ?_
          refine vc_nil ?_
          refine vc_then ?_
          exact vc_again (x := i) (i + 1) ⟨hi2, by rw [hch2, lastK_succ hi2, hwr, hls]; simp [lkLt, *]⟩ (by show ws.length - (i + 1) < ws.length - i; omega) ⟨rfl, rfl, rfl, rfl, trivial⟩ (ent_pick [1] rfl)
        ·skip
         have hls : lastK ws i = none := by
          obtain rfl : i = 0 := by omega
          rfl
         refine sk 24 35 ?_
         refine sk 25 35 ?_
         refine sk 26 35 ?_
         refine sk 27 35 ?_
         refine sk 28 35 ?_
         refine sk 29 35 ?_
         refine sk 30 35 ?_
         refine sk 31 35 ?_
         refine sk 32 35 ?_
         refine tgp 33 32 ?_
         refine tpp 34 ?_
         refine va_done (by kernel_rfl) ?_
         refine vc_then ?_
         refine vc_condF rfl ?_
         refine vc_skip ?_
         refine vc_inNormal ?_
         refine vc_then ?_
         refine vc_region ?_
         first | refine vc_y (y_arith _ rfl (wrapNadd (by omega))) rfl ?_ | refine vc_y (y_arith _ rfl (wrap64 (by omega) (by omega))) rfl ?_ | refine vp ?_
         refine vp ?_
         refine vc_nil ?_
         refine vc_then ?_
         exact vc_again (x := i) (i + 1) ⟨hi2, by rw [hch2, lastK_succ hi2, hwr, hls]; simp [lkLt, *]⟩ (by show ws.length - (i + 1) < ws.length - i; omega) ⟨rfl, rfl, rfl, rfl, trivial⟩ (ent_pick [1] rfl)
      ·skip
       have hwr : wrRight ws[i] = true := by simp [wrRight, hk, hvr, show ws[i].gone = false from c25]
       refine sk 14 25 ?_
       refine sk 15 25 ?_
       refine sk 16 25 ?_
       refine sk 17 25 ?_
       refine tgp 18 22 ?_
       refine tpp 19 ?_
       refine tpp 20 ?_
       refine tgp 21 32 ?_
       refine tgp 22 32 ?_
       refine tgp 23 32 ?_
       first | refine va_splitP 35 rfl (fun c35 => ?_) (fun c35 => ?_) | refine va_splitN 35 rfl (fun c35 => ?_) (fun c35 => ?_) | refine va_split 35 rfl (fun c35 => ?_) (fun c35 => ?_)
       ·skip
        have hls := lastK_pos (xs := ws) (i := i) (by omega) (by omega)
        refine tgp 24 35 ?_
        refine tgp 25 35 ?_
        first | refine tg 26 35 rfl (by exact y_arith _ rfl (wrapNsub (by omega))) ?_ | refine tg 26 35 rfl (by exact y_arith _ rfl (wrap64 (by omega) (by omega))) ?_ | refine tgp 26 35 ?_
        refine tkg 27 35 rfl (by exact y_elem 1 rfl (hv) (i - 1) rfl (by omega) sl_35 rfl rfl) ?_
        refine tg 28 35 rfl (by exact y_fieldE fl_97_0 0 rfl rfl) ?_
        refine tkg 29 35 rfl (by exact y_load1 1 rfl one_9 rfl (Rd.vis1 (hv) (List.getElem?_eq_getElem (by first | assumption | omega)) rfl)) ?_
        refine tg 30 35 rfl (by exact y_fieldP fl_97_0 0 rfl rfl) ?_
        refine tkg 31 35 rfl (by exact y_load1 0 rfl one_9 rfl (Pts.vis rfl)) ?_
        refine tgp 32 35 ?_
        refine tgp 33 32 ?_
        refine tpp 34 ?_
        refine va_done (by kernel_rfl) ?_
        refine vc_then ?_
        first | refine vc_condP rfl (fun c46 => ?_) (fun c46 => ?_) | refine vc_condN rfl (fun c46 => ?_) (fun c46 => ?_) | refine vc_cond rfl (fun c46 => ?_) (fun c46 => ?_)
        ·skip
         have hlt : sLt (ws[i - 1]'(by omega)).key ws[i].key = false := notT c46
         refine vc_seq ?_
         refine vc_region ?_
         refine vp ?_
         refine vc_nil ?_
         refine vc_then ?_
         refine vc_ret ?_
         refine vc_inRet ?_
         refine vc_thenRet ?_
         refine vc_thenRet ?_
         refine vc_inRet ?_
         refine vc_thenRet ?_
         exact vc_end1 Tryz.results34 rfl _ (ent_pick [1] rfl) ⟨by first | (unfold mayW; rw [hch, List.drop_length, show mayFrom (lastK ws ws.length) [] = true from rfl, Bool.true_and]) | (unfold mayW; rw [hch2, hwr]; rfl) | (unfold mayW; rw [hch2, hls]; simp [lkLt, hlt]), rfl⟩
        ·skip
         have hlt : sLt (ws[i - 1]'(by omega)).key ws[i].key = true := notF c46
         refine vc_skip ?_
         refine vc_inNormal ?_
         refine vc_then ?_
         refine vc_region ?_
         first | refine vc_y (y_arith _ rfl (wrapNadd (by omega))) rfl ?_ | refine vc_y (y_arith _ rfl (wrap64 (by omega) (by omega))) rfl ?_ | refine vp ?_
         refine vp ?_
         refine vc_nil ?_
         refine vc_then ?_
         exact vc_again (x := i) (i + 1) ⟨hi2, by rw [hch2, lastK_succ hi2, hwr, hls]; simp [lkLt, *]⟩ (by show ws.length - (i + 1) < ws.length - i; omega) ⟨rfl, rfl, rfl, rfl, trivial⟩ (ent_pick [1] rfl)
       ·skip
        have hls : lastK ws i = none := by
         obtain rfl : i = 0 := by omega
         rfl
        refine sk 24 35 ?_
        refine sk 25 35 ?_
        refine sk 26 35 ?_
        refine sk 27 35 ?_
        refine sk 28 35 ?_
        refine sk 29 35 ?_
        refine sk 30 35 ?_
        refine sk 31 35 ?_
        refine sk 32 35 ?_
        refine tgp 33 32 ?_
        refine tpp 34 ?_
        refine va_done (by kernel_rfl) ?_
        refine vc_then ?_
        refine vc_condF rfl ?_
        refine vc_skip ?_
        refine vc_inNormal ?_
        refine vc_then ?_
        refine vc_region ?_
        first | refine vc_y (y_arith _ rfl (wrapNadd (by omega))) rfl ?_ | refine vc_y (y_arith _ rfl (wrap64 (by omega) (by omega))) rfl ?_ | refine vp ?_
        refine vp ?_
        refine vc_nil ?_
        refine vc_then ?_
        exact vc_again (x := i) (i + 1) ⟨hi2, by rw [hch2, lastK_succ hi2, hwr, hls]; simp [lkLt, *]⟩ (by show ws.length - (i + 1) < ws.length - i; omega) ⟨rfl, rfl, rfl, rfl, trivial⟩ (ent_pick [1] rfl)
    exact vo_nil
  exact vo_nil
 ·skip
  obtain rfl : i = ws.length := by omega
  refine vc_exit ?_
  refine vc_thenExit ?_
  refine vc_thenExit ?_
  refine vc_inExit ?_
  refine vc_then ?_
  refine vc_seq ?_
  refine vc_region ?_
  refine vp ?_
  refine vc_y (y_len Tryz.underlying35 rfl (by first | assumption | rfl)) rfl ?_
  refine vc_callv ca_84 (us := []) (vs := []) rfl [_, _, _] rfl [] rfl (within_spec _ _ _) rfl ?_
  rintro _ _ ⟨rfl, rfl⟩
  refine vp ?_
  refine vc_nil ?_
  refine vc_then ?_
  refine vc_ret ?_
  exact vc_end1 Tryz.results34 rfl _ (ent_pick [0] rfl) ⟨by first | (unfold mayW; rw [hch, List.drop_length, show mayFrom (lastK ws ws.length) [] = true from rfl, Bool.true_and]) | (unfold mayW; rw [hch2, hwr]; rfl) | (unfold mayW; rw [hch2, hls]; simp [lkLt, hlt]), rfl⟩
theorem rspace0 {b : Nat} {X : RmX} {I : RmI} (rel : RmRel X I) (ok : X.ok) {A : HP} {h : SH} {ws : List Wr} (hv : Vis A (Rd eWr h ws)) (hws : ws.length ≤ 16 ∧ ∀ w ∈ ws, w.key.size ≤ 32) : Does Tryz.prog 71 [.pointer (some ⟨b, 0, none⟩), h.v] (RmO b X I ++ [A]) (fun v l => v = .int .i64 (spaceE X ws) ∧ l = RmO b X I ++ [A]) := by
 refine spec_of Tryz.func71 rfl Tryz.ntmps71 Tryz.results71 _ (by simp) fun ι F => ?_
 obtain ⟨hml, hmk⟩ := hws
 have hlv := ok.live
 have hle := ok.le
 have hmo := ok.mo
 have hqq := ok.q
 refine vc_see 7 rfl (hv.imp fun w r => r.len) (fun hlen => ?_)
 refine vc_seq ?_
 refine vc_region ?_
 refine vp ?_
 refine vc_nil ?_
 refine vc_then ?_
 refine vc_seq ?_
 refine vc_seq ?_
 refine vc_draw (by kernel_rfl) _ none [0] rfl ?_
 refine tpp 0 ?_
 refine tpp 2 ?_
 refine tpp 3 ?_
 refine tp 4 rfl (by exact y_fieldP fl_132_0 0 rfl rfl) ?_
 refine tp 5 rfl (by exact y_fieldP fl_24_3 3 rfl rfl) ?_
 refine tk 6 rfl (by exact y_load1 0 rfl one_3 rfl (Pts.vis rfl)) ?_
 refine va_ready [1] (by kernel_rfl) rfl ?_
 refine vo_cons rfl (fun hC0 => ?_) ?_
 ·skip
  refine vc_callv ca_16 (us := []) (vs := []) rfl [_] rfl [0, 0, 0, 0, 0, 0, 0] rfl (rseq0 rel ok) rfl ?_
  rintro _ _ ⟨rfl, rfl⟩
  refine vc_nil ?_
  refine vc_then ?_
  refine va_kept hC0 [0] rfl ?_
  clear hC0
  refine tpp 7 ?_
  refine va_done (by kernel_rfl) ?_
  refine vc_then ?_
  first | refine vc_condP rfl (fun c15 => ?_) (fun c15 => ?_) | refine vc_condN rfl (fun c15 => ?_) (fun c15 => ?_) | refine vc_cond rfl (fun c15 => ?_) (fun c15 => ?_)
  ·skip
   refine vc_seq ?_
   refine vc_region ?_
   refine vp ?_
   refine vc_nil ?_
   refine vc_then ?_
   refine vc_ret ?_
   refine vc_thenRet ?_
   exact vc_end1 Tryz.results71 rfl _ (ent_pick [0, 0, 0, 0, 0, 0, 0, 0] rfl) ⟨by simp only [spaceE]; rw [if_pos c15], rfl⟩
  ·skip
   refine vc_skip ?_
   refine vc_then ?_
   refine vc_seq ?_
   refine vc_region ?_
   refine vp ?_
   refine vp ?_
   refine vc_y (y_fieldP fl_132_5 8 rfl rfl) rfl ?_
   refine vc_y (y_load1 0 rfl one_3 rfl (Pts.vis rfl)) rfl ?_
   refine vp ?_
   refine vc_nil ?_
   refine vc_then ?_
   refine vc_seq ?_
   refine vc_seq ?_
   refine vc_region ?_
   refine vc_keep [(0, .pointer (some ⟨b, 0, none⟩)), (1, h.v), (5, .int .i64 (liveM X.M + addW X.M (ws.take 0)))] ⟨rfl, rfl, by simp only [List.take_zero, addW, Int.add_zero]; rfl, trivial⟩ ?_
   refine vp ?_
   refine vc_y (y_len Tryz.underlying35 rfl (by first | assumption | rfl)) rfl ?_
   refine vp ?_
   refine vc_nil ?_
   refine vc_then ?_
   refine vc_block ?_
   refine vc_loop (α := Nat) (fun xq_ => match xq_ with | i => [(0, .pointer (some ⟨b, 0, none⟩)), (1, h.v), (5, .int .i64 (liveM X.M + addW X.M (ws.take i))), (20, h.v), (21, .int .i64 (ws.length : Int)), (22, .int .i64 (i : Int))]) (fun xq_ => match xq_ with | i => RmO b X I ++ [A]) (fun xq_ => match xq_ with | i => ws.length - i) (fun xq_ => match xq_ with | i => i ≤ ws.length) 0 (Nat.zero_le _) ⟨rfl, rfl, rfl, rfl, rfl, rfl, trivial⟩ (ent_pick [0, 0, 0, 0, 0, 0, 0, 0] rfl) ?_
   rintro i hi
   show VC _ _ _ _ [(0, .pointer (some ⟨b, 0, none⟩)), (1, h.v), (5, .int .i64 (liveM X.M + addW X.M (ws.take i))), (20, h.v), (21, .int .i64 (ws.length : Int)), (22, .int .i64 (i : Int))] (RmO b X I ++ [A])
   refine vc_seq ?_
   refine vc_region ?_
   refine vp ?_
   refine vc_nil ?_
   refine vc_then ?_
   refine vc_seq ?_
   first | refine vc_condP rfl (fun c23 => ?_) (fun c23 => ?_) | refine vc_condN rfl (fun c23 => ?_) (fun c23 => ?_) | refine vc_cond rfl (fun c23 => ?_) (fun c23 => ?_)
   ·skip
    have hi2 : i < ws.length := by omega
    have hab := addW_bound (M := X.M) (ws := ws.take i) (fun w hw => hmk w (List.mem_of_mem_take hw))
    rw [List.length_take_of_le (by omega)] at hab
    have hki := hmk _ (List.getElem_mem hi2)
    have hll := lives_le (chainM X.M ws[i].key) hki
    have hvw := vWeight_le ws[i].val
    have hvo := rel.vis ws[i].key
    have hch := ok.chain ws[i].key
    have hsu := addW_succ (M := X.M) hi2
    refine vc_skip ?_
    refine vc_then ?_
    refine vc_seq ?_
    refine vc_block ?_
    refine vc_seq ?_
    refine vc_region ?_
    refine vc_y (y_elem 7 rfl (hv) i rfl hi2 sl_35 rfl rfl) rfl ?_
    refine vc_y (y_loadA 7 rfl (cs := [_, _, _, _, _]) ag_97 rfl (Rd.visA (hv) (List.getElem?_eq_getElem (by first | assumption | omega)) rfl)) rfl ?_
    refine vc_alloc [.string ⟨#[]⟩, .bool false, .bool false, .string ⟨#[]⟩, .int .u64 0] ze_97 rfl rfl (fun b7 => ?_)
    refine vc_storeP 0 rfl [_, _, _, _, _] [_, _, _, _, _] rfl rfl rfl sz_97 rfl rfl rfl ?_
    refine vc_nil ?_
    refine vc_then ?_
    refine vc_seq ?_
    refine vc_draw (by kernel_rfl) _ none [0] rfl ?_
    refine tpp 0 ?_
    refine tp 1 rfl (by exact y_fieldP fl_97_0 0 rfl rfl) ?_
    refine tk 2 rfl (by exact y_load1 0 rfl one_9 rfl (Pts.vis rfl)) ?_
    refine tpp 3 ?_
    refine tp 4 rfl (by exact y_fieldP fl_97_0 0 rfl rfl) ?_
    refine tk 5 rfl (by exact y_load1 0 rfl one_9 rfl (Pts.vis rfl)) ?_
    refine va_ready [6] (by kernel_rfl) rfl ?_
    refine vo_cons rfl (fun hC0 => ?_) ?_
    ·skip
     refine vc_callv ca_76 (us := []) (vs := []) rfl [_, _] rfl [1, 1, 1, 1, 1, 1, 1] rfl (rchain0 rel ws[i].key) rfl ?_
     rintro _ _ ⟨rfl, rfl⟩
     refine vc_nil ?_
     refine vc_then ?_
     refine va_kept hC0 [7] rfl ?_
     clear hC0
     refine va_ready [7] (by kernel_rfl) rfl ?_
     refine vo_cons rfl (fun hC0 => ?_) ?_
     ·skip
      refine vc_callv ca_120 (us := []) (vs := []) rfl [_, _] rfl [6] rfl (lives_spec hvo (by omega) (by omega)) rfl ?_
      rintro _ _ ⟨rfl, rfl⟩
      refine vc_nil ?_
      refine vc_then ?_
      refine va_kept hC0 [7] rfl ?_
      clear hC0
      first | refine tp 8 rfl (by exact y_arith _ rfl (wrap64 (by omega) (by omega))) ?_ | refine tpp 8 ?_
      refine tpp 9 ?_
      refine va_done (by kernel_rfl) ?_
      refine vc_then ?_
      refine vc_seq ?_
      refine vc_region ?_
      refine vc_y (y_fieldP fl_97_1 1 rfl rfl) rfl ?_
      refine vc_y (y_load1 7 rfl one_4 rfl (Pts.vis rfl)) rfl ?_
      refine vp ?_
      refine vc_nil ?_
      refine vc_then ?_
      first | refine vc_condP rfl (fun c37 => ?_) (fun c37 => ?_) | refine vc_condN rfl (fun c37 => ?_) (fun c37 => ?_) | refine vc_cond rfl (fun c37 => ?_) (fun c37 => ?_)
      ·skip
       have hg : ws[i].gone = false := notT c37
       have hs2 : liveM X.M + addW X.M (ws.take i) - lives ws[i].key (chainM X.M ws[i].key) + ((ws[i].key.size : Int) + vWeight ws[i].val) = liveM X.M + addW X.M (ws.take (i + 1)) := by rw [hsu]; simp only [wAdd, hg, Bool.false_eq_true, if_false]; omega
       refine vc_draw (by kernel_rfl) _ none [7] rfl ?_
       refine tpp 0 ?_
       refine tp 1 rfl (by exact y_fieldP fl_97_0 0 rfl rfl) ?_
       refine tk 2 rfl (by exact y_load1 0 rfl one_9 rfl (Pts.vis rfl)) ?_
       refine tp 3 rfl (by exact y_strLen Tryz.underlying9 rfl) ?_
       refine tp 4 rfl (by exact y_fieldP fl_97_2 2 rfl rfl) ?_
       refine tk 5 rfl (by exact y_loadA 0 rfl (cs := [_, _, _]) ag_45 rfl (Pts.visA rfl)) ?_
       refine va_ready [6] (by kernel_rfl) rfl ?_
       refine vo_cons rfl (fun hC0 => ?_) ?_
       ·skip
        refine vc_callv ca_113 (us := []) (vs := []) rfl [_] rfl [] rfl (vweight_spec ws[i].val) rfl ?_
        rintro _ _ ⟨rfl, rfl⟩
        refine vc_nil ?_
        refine vc_then ?_
        refine va_kept hC0 [7] rfl ?_
        clear hC0
        first | refine tp 7 rfl (by exact y_arith _ rfl (wrap64 (by omega) (by omega))) ?_ | refine tpp 7 ?_
        first | refine tp 8 rfl (by exact y_arith _ rfl (wrap64 (by omega) (by omega))) ?_ | refine tpp 8 ?_
        refine tpp 9 ?_
        refine va_done (by kernel_rfl) ?_
        refine vc_inNormal ?_
        refine vc_then ?_
        refine vc_region ?_
        refine vc_keep [(0, .pointer (some ⟨b, 0, none⟩)), (1, h.v), (5, .int .i64 (liveM X.M + addW X.M (ws.take (i + 1)))), (20, h.v), (21, .int .i64 (ws.length : Int)), (22, .int .i64 (i : Int))] ⟨rfl, rfl, by rw [← hs2]; rfl, rfl, rfl, rfl, trivial⟩ ?_
        first | refine vc_y (y_arith _ rfl (wrapNadd (by omega))) rfl ?_ | refine vc_y (y_arith _ rfl (wrap64 (by omega) (by omega))) rfl ?_ | refine vp ?_
        refine vp ?_
        refine vc_nil ?_
        refine vc_then ?_
        exact vc_again (x := i) (i + 1) hi2 (by show ws.length - (i + 1) < ws.length - i; omega) ⟨rfl, rfl, rfl, rfl, rfl, rfl, trivial⟩ (ent_pick [1, 1, 1, 1, 1, 1, 0, 1] rfl)
       exact vo_nil
      ·skip
       have hg : ws[i].gone = true := notF c37
       have hs2 : liveM X.M + addW X.M (ws.take i) - lives ws[i].key (chainM X.M ws[i].key) = liveM X.M + addW X.M (ws.take (i + 1)) := by rw [hsu]; simp only [wAdd, hg, if_true]; omega
       refine vc_skip ?_
       refine vc_inNormal ?_
       refine vc_then ?_
       refine vc_region ?_
       refine vc_keep [(0, .pointer (some ⟨b, 0, none⟩)), (1, h.v), (5, .int .i64 (liveM X.M + addW X.M (ws.take (i + 1)))), (20, h.v), (21, .int .i64 (ws.length : Int)), (22, .int .i64 (i : Int))] ⟨rfl, rfl, by rw [← hs2]; rfl, rfl, rfl, rfl, trivial⟩ ?_
       first | refine vc_y (y_arith _ rfl (wrapNadd (by omega))) rfl ?_ | refine vc_y (y_arith _ rfl (wrap64 (by omega) (by omega))) rfl ?_ | refine vp ?_
       refine vp ?_
       refine vc_nil ?_
       refine vc_then ?_
       exact vc_again (x := i) (i + 1) hi2 (by show ws.length - (i + 1) < ws.length - i; omega) ⟨rfl, rfl, rfl, rfl, rfl, rfl, trivial⟩ (ent_pick [1, 1, 1, 1, 1, 1, 0, 1] rfl)
     exact vo_nil
    exact vo_nil
   ·skip
    obtain rfl : i = ws.length := by omega
    have hall : liveM X.M + addW X.M (ws.take ws.length) = liveM X.M + addW X.M ws := by rw [List.take_length]
    refine vc_exit ?_
    refine vc_thenExit ?_
    refine vc_thenExit ?_
    refine vc_inExit ?_
    refine vc_then ?_
    refine vc_seq ?_
    refine vc_seq ?_
    refine vc_region ?_
    iterate 3 refine vp ?_
    refine vc_y (y_fieldP fl_132_0 0 rfl rfl) rfl ?_
    refine vc_y (y_fieldP fl_24_2 2 rfl rfl) rfl ?_
    refine vc_y (y_load1 0 rfl one_3 rfl (Pts.vis rfl)) rfl ?_
    refine vp ?_
    refine vc_nil ?_
    refine vc_then ?_
    first | refine vc_condP rfl (fun c54 => ?_) (fun c54 => ?_) | refine vc_condN rfl (fun c54 => ?_) (fun c54 => ?_) | refine vc_cond rfl (fun c54 => ?_) (fun c54 => ?_)
    ·skip
     refine vc_seq ?_
     refine vc_region ?_
     refine vp ?_
     refine vc_nil ?_
     refine vc_then ?_
     refine vc_ret ?_
     refine vc_thenRet ?_
     exact vc_end1 Tryz.results71 rfl _ (ent_pick [0, 0, 0, 0, 0, 0, 0, 0] rfl) ⟨by simp only [spaceE]; rw [if_neg c15, if_pos (by rw [← hall]; exact c54)], rfl⟩
    ·skip
     refine vc_skip ?_
     refine vc_then ?_
     refine vc_seq ?_
     refine vc_region ?_
     refine vp ?_
     refine vc_nil ?_
     refine vc_then ?_
     refine vc_ret ?_
     exact vc_end1 Tryz.results71 rfl _ (ent_pick [0, 0, 0, 0, 0, 0, 0, 0] rfl) ⟨by simp only [spaceE]; rw [if_neg c15, if_neg (by rw [← hall]; exact c54)], rfl⟩
 exact vo_nil
theorem rcheck0 {b : Nat} {X : RmX} {I : RmI} (rel : RmRel X I) (ok : X.ok) {A : HP} {h : SH} {ws : List Wr} (hv : Vis A (Rd eWr h ws)) (hb : ws.length ≤ 1000000) (seq : Int) : Does Tryz.prog 21 [.pointer (some ⟨b, 0, none⟩), h.v, .int .i64 seq] (RmO b X I ++ [A]) (fun v l => v = .int .i64 (checkE X ws seq) ∧ l = RmO b X I ++ [A]) := by
 refine spec_of Tryz.func21 rfl Tryz.ntmps21 Tryz.results21 _ (by simp) fun ι F => ?_
 refine vc_see 7 rfl (hv.imp fun w r => r.len) (fun hlen => ?_)
 refine vc_seq ?_
 refine vc_region ?_
 refine vp ?_
 refine vc_nil ?_
 refine vc_then ?_
 refine vc_seq ?_
 refine vc_block ?_
 refine vc_seq ?_
 refine vc_region ?_
 refine vp ?_
 refine vc_y (y_eqNil ep_28 rfl rfl) rfl ?_
 refine vp ?_
 refine vc_nil ?_
 refine vc_then ?_
 refine vc_condF rfl ?_
 refine vc_seq ?_
 refine vc_region ?_
 refine vp ?_
 refine vc_callv ca_34 (us := []) (vs := []) rfl [_] rfl [7] rfl (rmay_spec hv hb) rfl ?_
 rintro _ _ ⟨rfl, rfl⟩
 refine vp ?_
 refine vp ?_
 refine vc_nil ?_
 refine vc_then ?_
 first | refine vc_condP rfl (fun c14 => ?_) (fun c14 => ?_) | refine vc_condN rfl (fun c14 => ?_) (fun c14 => ?_) | refine vc_cond rfl (fun c14 => ?_) (fun c14 => ?_)
 ·skip
  have hmay : mayW ws = false := notT c14
  refine vc_seq ?_
  refine vc_region ?_
  refine vp ?_
  refine vc_nil ?_
  refine vc_then ?_
  refine vc_ret ?_
  refine vc_inRet ?_
  refine vc_thenRet ?_
  exact vc_end1 Tryz.results21 rfl _ (ent_pick [1, 1, 1, 1, 1, 1, 1, 0] rfl) ⟨by first | (simp only [checkE, hmay, hwi, hcf, conflW, if_true]; rfl) | (simp only [checkE, hmay, hwi, hc2, hvl, decide_eq_true hlt, Bool.true_or, if_true]) | (simp only [checkE, hmay, hwi]; rfl) | (simp only [checkE, hmay]; rfl), rfl⟩
 ·skip
  have hmay : mayW ws = true := notF c14
  have hmm : ws.length ≤ 16 ∧ ∀ w ∈ ws, w.key.size ≤ 32 := by
   have h0 := hmay
   simp only [mayW, Bool.and_eq_true, decide_eq_true_eq] at h0
   exact ⟨by omega, fun w hw => (wr_key (mayFrom_mem h0.1 w hw)).2⟩
  refine vc_seq ?_
  refine vc_region ?_
  refine vp ?_
  refine vp ?_
  refine vc_callv ca_18 (us := []) (vs := []) rfl [_] rfl [1, 1, 1, 1, 1, 1, 1] rfl (rfloor0 rel ok) rfl ?_
  rintro _ _ ⟨rfl, rfl⟩
  refine vp ?_
  refine vc_callv ca_16 (us := []) (vs := []) rfl [_] rfl [0, 0, 0, 0, 0, 0, 0] rfl (rseq0 rel ok) rfl ?_
  rintro _ _ ⟨rfl, rfl⟩
  refine vc_callv ca_84 (us := []) (vs := []) rfl [_, _, _] rfl [] rfl (within_spec _ _ _) rfl ?_
  rintro _ _ ⟨rfl, rfl⟩
  refine vp ?_
  refine vp ?_
  refine vc_nil ?_
  refine vc_then ?_
  first | refine vc_condP rfl (fun c18 => ?_) (fun c18 => ?_) | refine vc_condN rfl (fun c18 => ?_) (fun c18 => ?_) | refine vc_cond rfl (fun c18 => ?_) (fun c18 => ?_)
  ·skip
   have hwi : (decide (X.R.floor ≤ seq) && decide (seq ≤ X.R.seq)) = false := notT c18
   refine vc_seq ?_
   refine vc_region ?_
   refine vp ?_
   refine vc_nil ?_
   refine vc_then ?_
   refine vc_ret ?_
   refine vc_inRet ?_
   refine vc_thenRet ?_
   exact vc_end1 Tryz.results21 rfl _ (ent_pick [0, 0, 0, 0, 0, 0, 0, 0] rfl) ⟨by first | (simp only [checkE, hmay, hwi, hcf, conflW, if_true]; rfl) | (simp only [checkE, hmay, hwi, hc2, hvl, decide_eq_true hlt, Bool.true_or, if_true]) | (simp only [checkE, hmay, hwi]; rfl) | (simp only [checkE, hmay]; rfl), rfl⟩
  ·skip
   have hwi : (decide (X.R.floor ≤ seq) && decide (seq ≤ X.R.seq)) = true := notF c18
   refine vc_skip ?_
   refine vc_inNormal ?_
   refine vc_then ?_
   refine vc_seq ?_
   refine vc_seq ?_
   refine vc_region ?_
   refine vp ?_
   refine vc_y (y_len Tryz.underlying35 rfl (by first | assumption | rfl)) rfl ?_
   refine vp ?_
   refine vc_nil ?_
   refine vc_then ?_
   refine vc_block ?_
   refine vc_loop (α := Nat) (fun xq_ => match xq_ with | i => [(0, .pointer (some ⟨b, 0, none⟩)), (1, h.v), (2, .int .i64 seq), (26, h.v), (27, .int .i64 (ws.length : Int)), (28, .int .i64 (i : Int))]) (fun xq_ => match xq_ with | i => RmO b X I ++ [A]) (fun xq_ => match xq_ with | i => ws.length - i) (fun xq_ => match xq_ with | i => i ≤ ws.length ∧ conflW X.M seq ws = conflW X.M seq (ws.drop i)) 0 ⟨Nat.zero_le _, rfl⟩ ⟨rfl, rfl, rfl, rfl, rfl, rfl, trivial⟩ (ent_pick [0, 0, 0, 0, 0, 0, 0, 0] rfl) ?_
   rintro i ⟨hi, hcf⟩
   show VC _ _ _ _ [(0, .pointer (some ⟨b, 0, none⟩)), (1, h.v), (2, .int .i64 seq), (26, h.v), (27, .int .i64 (ws.length : Int)), (28, .int .i64 (i : Int))] (RmO b X I ++ [A])
   refine vc_seq ?_
   refine vc_region ?_
   refine vp ?_
   refine vc_nil ?_
   refine vc_then ?_
   refine vc_seq ?_
   first | refine vc_condP rfl (fun c29 => ?_) (fun c29 => ?_) | refine vc_condN rfl (fun c29 => ?_) (fun c29 => ?_) | refine vc_cond rfl (fun c29 => ?_) (fun c29 => ?_)
   ·skip
    have hi2 : i < ws.length := by omega
    have hvo := rel.vis ws[i].key
    have hch := ok.chain ws[i].key
    have hc2 : conflW X.M seq ws = ((match verLast (chainM X.M ws[i].key) with | some v => decide (seq < v.seq) | none => false) || conflW X.M seq (ws.drop (i + 1))) := by rw [hcf, List.drop_eq_getElem_cons hi2]; rfl
    refine vc_skip ?_
    refine vc_then ?_
    refine vc_seq ?_
    refine vc_block ?_
    refine vc_seq ?_
    refine vc_region ?_
    refine vc_y (y_elem 7 rfl (hv) i rfl hi2 sl_35 rfl rfl) rfl ?_
    refine vc_y (y_loadA 7 rfl (cs := [_, _, _, _, _]) ag_97 rfl (Rd.visA (hv) (List.getElem?_eq_getElem (by first | assumption | omega)) rfl)) rfl ?_
    refine vc_alloc [.string ⟨#[]⟩, .bool false, .bool false, .string ⟨#[]⟩, .int .u64 0] ze_97 rfl rfl (fun b8 => ?_)
    refine vc_storeP 0 rfl [_, _, _, _, _] [_, _, _, _, _] rfl rfl rfl sz_97 rfl rfl rfl ?_
    refine vc_nil ?_
    refine vc_then ?_
    refine vc_seq ?_
    refine vc_region ?_
    refine vp ?_
    refine vc_y (y_fieldP fl_97_0 0 rfl rfl) rfl ?_
    refine vc_y (y_load1 0 rfl one_9 rfl (Pts.vis rfl)) rfl ?_
    refine vc_callv ca_76 (us := []) (vs := []) rfl [_, _] rfl [1, 1, 1, 1, 1, 1, 1] rfl (rchain0 rel ws[i].key) rfl ?_
    rintro _ _ ⟨rfl, rfl⟩
    refine vc_callv ca_85 (us := []) (vs := []) rfl [_] rfl [6] rfl (Last_spec hvo (by omega)) rfl ?_
    rintro _ _ ⟨rfl, rfl⟩
    iterate 3 refine vp ?_
    refine vc_alloc [.int .i64 0, .bool false, .bool false, .string ⟨#[]⟩, .int .u64 0] ze_135 rfl rfl (fun b9 => ?_)
    refine vc_storeP 0 rfl [_, _, _, _, _] [_, _, _, _, _] rfl rfl rfl sz_135 rfl rfl rfl ?_
    refine vp ?_
    refine vc_nil ?_
    refine vc_then ?_
    refine vc_seq ?_
    refine vc_region ?_
    refine vp ?_
    refine vp ?_
    first | refine vc_splitP 41 rfl (fun c41 => ?_) (fun c41 => ?_) | refine vc_splitN 41 rfl (fun c41 => ?_) (fun c41 => ?_) | refine vc_split 41 rfl (fun c41 => ?_) (fun c41 => ?_)
    ·skip
     obtain ⟨v, hvl⟩ : ∃ v, verLast (chainM X.M ws[i].key) = some v := by
      cases h0 : verLast (chainM X.M ws[i].key) with
      | none => rw [h0] at c41; cases c41
      | some v => exact ⟨v, rfl⟩
     rw [hvl]
     refine vc_guardT 41 rfl rfl ?_
     refine vc_y (y_fieldP fl_135_0 0 rfl rfl) rfl ?_
     refine vc_guardT 41 rfl rfl ?_
     refine vc_y (y_load1 0 rfl one_3 rfl (Pts.vis rfl)) rfl ?_
     refine vc_guardT 41 rfl rfl ?_
     refine vp ?_
     refine vc_guardT 41 rfl rfl ?_
     refine vp ?_
     refine vp ?_
     refine vc_nil ?_
     refine vc_then ?_
     first | refine vc_condP rfl (fun c46 => ?_) (fun c46 => ?_) | refine vc_condN rfl (fun c46 => ?_) (fun c46 => ?_) | refine vc_cond rfl (fun c46 => ?_) (fun c46 => ?_)
     ·skip
      have hlt : seq < v.seq := c46
      refine vc_seq ?_
      refine vc_region ?_
      refine vp ?_
      refine vc_nil ?_
      refine vc_then ?_
      refine vc_ret ?_
      refine vc_inRet ?_
      refine vc_thenRet ?_
      refine vc_thenRet ?_
      refine vc_inRet ?_
      refine vc_thenRet ?_
      exact vc_end1 Tryz.results21 rfl _ (ent_pick [2, 2, 2, 2, 2, 2, 1, 2] rfl) ⟨by first | (simp only [checkE, hmay, hwi, hcf, conflW, if_true]; rfl) | (simp only [checkE, hmay, hwi, hc2, hvl, decide_eq_true hlt, Bool.true_or, if_true]) | (simp only [checkE, hmay, hwi]; rfl) | (simp only [checkE, hmay]; rfl), rfl⟩
     ·skip
      have hlt : ¬ seq < v.seq := c46
      refine vc_skip ?_
      refine vc_inNormal ?_
      refine vc_then ?_
      refine vc_region ?_
      first | refine vc_y (y_arith _ rfl (wrapNadd (by omega))) rfl ?_ | refine vc_y (y_arith _ rfl (wrap64 (by omega) (by omega))) rfl ?_ | refine vp ?_
      refine vp ?_
      refine vc_nil ?_
      refine vc_then ?_
      exact vc_again (x := i) (i + 1) ⟨hi2, by rw [hc2, hvl]; simp [*]⟩ (by show ws.length - (i + 1) < ws.length - i; omega) ⟨rfl, rfl, rfl, rfl, rfl, rfl, trivial⟩ (ent_pick [2, 2, 2, 2, 2, 2, 1, 2] rfl)
    ·skip
     have hvl : verLast (chainM X.M ws[i].key) = none := by
      cases h0 : verLast (chainM X.M ws[i].key) with
      | none => rfl
      | some v => rw [h0] at c41; cases c41
     refine vc_guardF 41 rfl rfl rfl rfl ?_
     refine vc_guardF 41 rfl rfl rfl rfl ?_
     refine vc_guardF 41 rfl rfl rfl rfl ?_
     refine vc_guardF 41 rfl rfl rfl rfl ?_
     refine vp ?_
     refine vc_nil ?_
     refine vc_then ?_
     refine vc_condF rfl ?_
     refine vc_skip ?_
     refine vc_inNormal ?_
     refine vc_then ?_
     refine vc_region ?_
     first | refine vc_y (y_arith _ rfl (wrapNadd (by omega))) rfl ?_ | refine vc_y (y_arith _ rfl (wrap64 (by omega) (by omega))) rfl ?_ | refine vp ?_
     refine vp ?_
     refine vc_nil ?_
     refine vc_then ?_
     exact vc_again (x := i) (i + 1) ⟨hi2, by rw [hc2, hvl]; simp [*]⟩ (by show ws.length - (i + 1) < ws.length - i; omega) ⟨rfl, rfl, rfl, rfl, rfl, rfl, trivial⟩ (ent_pick [2, 2, 2, 2, 2, 2, 1, 2] rfl)
   ·skip
    obtain rfl : i = ws.length := by omega
    rw [List.drop_length] at hcf
    refine vc_exit ?_
    refine vc_thenExit ?_
    refine vc_thenExit ?_
    refine vc_inExit ?_
    refine vc_then ?_
    refine vc_seq ?_
    refine vc_region ?_
    refine vp ?_
    refine vp ?_
    refine vc_callv ca_71 (us := []) (vs := []) rfl [_, _] rfl [0, 0, 0, 0, 0, 0, 0, 0] rfl (rspace0 rel ok hv hmm) rfl ?_
    rintro _ _ ⟨rfl, rfl⟩
    refine vp ?_
    refine vc_nil ?_
    refine vc_then ?_
    refine vc_ret ?_
    exact vc_end1 Tryz.results21 rfl _ (ent_pick [0, 0, 0, 0, 0, 0, 0, 0] rfl) ⟨by first | (simp only [checkE, hmay, hwi, hcf, conflW, if_true]; rfl) | (simp only [checkE, hmay, hwi, hc2, hvl, decide_eq_true hlt, Bool.true_or, if_true]) | (simp only [checkE, hmay, hwi]; rfl) | (simp only [checkE, hmay]; rfl), rfl⟩
theorem rcommit0 {b : Nat} {X : RmX} {I : RmI} (rel : RmRel X I) (ok : X.ok) {A : HP} {h : SH} {ws : List Wr} (hv : Vis A (Rd eWr h ws)) (hb : ws.length ≤ 1000000) (stamp : Int) (hbg : X.R.seq - X.R.begin < 900000) (hle : X.M.length + ws.length ≤ 100000 ∨ mayW ws = false) : Does Tryz.prog 15 [.pointer (some ⟨b, 0, none⟩), h.v, .int .u64 stamp] (RmO b X I ++ [A]) (fun v l => v = .tuple #[.int .i64 (commitX X ws stamp).1, .int .i64 (commitX X ws stamp).2.1] ∧ l = [RoomC b (commitX X ws stamp).2.2, A]) := by
 refine spec_of Tryz.func15 rfl Tryz.ntmps15 Tryz.results15 _ (by simp) fun ι F => ?_
 refine vc_see 7 rfl (hv.imp fun w r => r.len) (fun hlen => ?_)
 refine vc_seq ?_
 refine vc_region ?_
 refine vp ?_
 refine vp ?_
 refine vc_nil ?_
 refine vc_then ?_
 refine vc_seq ?_
 refine vc_block ?_
 refine vc_seq ?_
 refine vc_region ?_
 refine vp ?_
 refine vc_y (y_eqNil ep_28 rfl rfl) rfl ?_
 refine vp ?_
 refine vc_nil ?_
 refine vc_then ?_
 refine vc_condF rfl ?_
 refine vc_seq ?_
 refine vc_region ?_
 refine vp ?_
 refine vc_callv ca_34 (us := []) (vs := []) rfl [_] rfl [7] rfl (rmay_spec hv hb) rfl ?_
 rintro _ _ ⟨rfl, rfl⟩
 refine vp ?_
 refine vp ?_
 refine vc_nil ?_
 refine vc_then ?_
 first | refine vc_condP rfl (fun c17 => ?_) (fun c17 => ?_) | refine vc_condN rfl (fun c17 => ?_) (fun c17 => ?_) | refine vc_cond rfl (fun c17 => ?_) (fun c17 => ?_)
 ·skip
  have hmay : mayW ws = false := notT c17
  have hco : commitX X ws stamp = (0, 1, X) := by simp [commitX, hmay]
  refine vc_seq ?_
  refine vc_region ?_
  refine vp ?_
  refine vp ?_
  refine vc_nil ?_
  refine vc_then ?_
  refine vc_ret ?_
  refine vc_inRet ?_
  refine vc_thenRet ?_
  exact vc_end2 Tryz.results15 rfl rfl _ (ent_at [1, 1, 1, 1, 1, 1, 1, 0] rfl (ent_RmO rel (r := [A]))) ⟨by rw [hco], by rw [hco]⟩
 ·skip
  have hmay : mayW ws = true := notF c17
  have hmm : ws.length ≤ 16 ∧ ∀ w ∈ ws, w.key.size ≤ 32 := by
   have h0 := hmay
   simp only [mayW, Bool.and_eq_true, decide_eq_true_eq] at h0
   exact ⟨by omega, fun w hw => (wr_key (mayFrom_mem h0.1 w hw)).2⟩
  refine vc_skip ?_
  refine vc_inNormal ?_
  refine vc_then ?_
  refine vc_seq ?_
  refine vc_seq ?_
  refine vc_region ?_
  refine vp ?_
  refine vp ?_
  refine vc_callv ca_71 (us := []) (vs := []) rfl [_, _] rfl [1, 1, 1, 1, 1, 1, 1, 0] rfl (rspace0 rel ok hv hmm) rfl ?_
  rintro _ _ ⟨rfl, rfl⟩
  refine vp ?_
  refine vc_nil ?_
  refine vc_then ?_
  refine vc_seq ?_
  refine vc_region ?_
  refine vp ?_
  refine vp ?_
  refine vc_nil ?_
  refine vc_then ?_
  first | refine vc_condP rfl (fun c25 => ?_) (fun c25 => ?_) | refine vc_condN rfl (fun c25 => ?_) (fun c25 => ?_) | refine vc_cond rfl (fun c25 => ?_) (fun c25 => ?_)
  ·skip
   have hsp : spaceE X ws ≠ 0 := by first | exact c25 | simpa using c25
   have hco : commitX X ws stamp = (0, spaceE X ws, X) := by simp [commitX, hmay, hsp]
   refine vc_seq ?_
   refine vc_region ?_
   iterate 3 refine vp ?_
   refine vc_nil ?_
   refine vc_then ?_
   refine vc_ret ?_
   refine vc_thenRet ?_
   exact vc_end2 Tryz.results15 rfl rfl _ (ent_at [0, 0, 0, 0, 0, 0, 0, 0] rfl (ent_RmO rel (r := [A]))) ⟨by rw [hco], by rw [hco]⟩
  ·skip
   have hsp : spaceE X ws = 0 := by first | exact c25 | simpa using c25
   refine vc_skip ?_
   refine vc_then ?_
   refine vc_seq ?_
   refine vc_region ?_
   refine vp ?_
   refine vp ?_
   refine vc_y (y_fieldP fl_132_1 4 rfl rfl) rfl ?_
   refine vc_y (y_load1 0 rfl one_128 rfl (Pts.vis rfl)) rfl ?_
   refine vp ?_
   refine vc_callv ca_72 (us := []) (vs := []) rfl [_, _] rfl [2] rfl (ring_push ok.rg stamp) rfl ?_
   rintro _ _ ⟨rfl, rfl⟩
   iterate 5 refine vp ?_
   refine vc_nil ?_
   refine vc_then ?_
   refine vc_seq ?_
   refine vc_seq ?_
   refine vc_region ?_
   refine vp ?_
   refine vp ?_
   refine vc_nil ?_
   refine vc_then ?_
   first | refine vc_condP rfl (fun c37 => ?_) (fun c37 => ?_) | refine vc_condN rfl (fun c37 => ?_) (fun c37 => ?_) | refine vc_cond rfl (fun c37 => ?_) (fun c37 => ?_)
   ·skip
    have hpe : (pushR X.R stamp).2.1 ≠ 0 := by first | exact c37 | simpa using c37
    have hco : commitX X ws stamp = (0, (pushR X.R stamp).2.1, X) := by simp [commitX, hmay, hsp, hpe]
    have hpR : (pushR X.R stamp).2.2 = X.R := by
     have h0 := hpe
     unfold pushR at h0 ⊢
     split
     ·rfl
     ·split
      ·rfl
      ·rename_i h1 h2; exact absurd (by rw [if_neg h1, if_neg h2]) h0
    refine vc_seq ?_
    refine vc_region ?_
    iterate 3 refine vp ?_
    refine vc_nil ?_
    refine vc_then ?_
    refine vc_ret ?_
    refine vc_thenRet ?_
    exact vc_end2 Tryz.results15 rfl rfl _ (ent_at [1, 1, 0, 0, 0, 0, 0, 0] rfl (ent_RmO (X := ⟨X.label, X.ring, X.quota, X.most, (pushR X.R stamp).2.2, X.M⟩) (I := I) ⟨rel.m, rel.pos, rel.perm, rel.hl, rel.le⟩ (r := [A]))) ⟨by rw [hco], by rw [hco, hpR]⟩
   ·skip
    have hpe : (pushR X.R stamp).2.1 = 0 := by first | exact c37 | simpa using c37
    obtain ⟨R', hR'⟩ : ∃ R', R' = (pushR X.R stamp).2.2 := ⟨_, rfl⟩
    have hps : R'.seq = X.R.seq + 1 ∧ R'.begin = X.R.begin ∧ R'.size = X.R.size ∧ (pushR X.R stamp).1 = R'.seq := by
     rw [hR']
     unfold pushR at hpe ⊢
     split
     ·rename_i h1; rw [if_pos h1] at hpe; cases hpe
     ·split
      ·rename_i h1 h2; rw [if_neg h1, if_pos h2] at hpe; cases hpe
      ·exact ⟨rfl, rfl, rfl, rfl⟩
    have hmf : mayFrom none ws = true := by simp only [mayW, Bool.and_eq_true] at hmay; exact hmay.1
    have hsm : X.R.seq < X.most := by
     unfold spaceE at hsp
     split at hsp
     ·cases hsp
     ·omega
    have hH : PutsH X R' ws := ⟨ok, hR' ▸ push_ok ok.rg stamp, hps.1, hps.2.1, hps.2.2.1, by omega, by omega, hmf, hle.resolve_right (by rw [hmay]; simp)⟩
    have hco : commitX X ws stamp = (R'.seq, 0, ⟨X.label, X.ring, X.quota, X.most, R', mPuts X.M R'.seq ws⟩) := by simp only [commitX, hmay, hsp, hpe, if_true]; rw [hps.2.2.2, ← hR']
    rw [← hR', hps.2.2.2]
    refine vc_skip ?_
    refine vc_then ?_
    refine vc_seq ?_
    refine vc_seq ?_
    refine vc_region ?_
    refine vc_ent (l' := [RoomC b ⟨X.label, X.ring, X.quota, X.most, R', mPuts X.M R'.seq (ws.take 0)⟩, A]) (ent_at [1, 1, 0, 0, 0, 0, 0, 0] rfl (ent_RmO (b := b) (X := ⟨X.label, X.ring, X.quota, X.most, R', mPuts X.M R'.seq (ws.take 0)⟩) (I := I) ⟨rel.m, rel.pos, rel.perm, rel.hl, rel.le⟩ (r := [A]))) ?_
    refine vp ?_
    refine vc_y (y_len Tryz.underlying35 rfl (by first | assumption | rfl)) rfl ?_
    refine vp ?_
    refine vc_nil ?_
    refine vc_then ?_
    refine vc_block ?_
    refine vc_loop (α := Nat) (fun xq_ => match xq_ with | i => [(0, .pointer (some ⟨b, 0, none⟩)), (1, h.v), (9, .int .i64 R'.seq), (39, h.v), (40, .int .i64 (ws.length : Int)), (41, .int .i64 (i : Int))]) (fun xq_ => match xq_ with | i => [RoomC b ⟨X.label, X.ring, X.quota, X.most, R', mPuts X.M R'.seq (ws.take i)⟩, A]) (fun xq_ => match xq_ with | i => ws.length - i) (fun xq_ => match xq_ with | i => i ≤ ws.length ∧ Puts X R' R'.seq ws i) 0 ⟨Nat.zero_le _, hH.zero⟩ ⟨rfl, rfl, rfl, rfl, rfl, rfl, trivial⟩ (ent_pick [0, 0] rfl) ?_
    rintro i ⟨hi, hpi⟩
    show VC _ _ _ _ [(0, .pointer (some ⟨b, 0, none⟩)), (1, h.v), (9, .int .i64 R'.seq), (39, h.v), (40, .int .i64 (ws.length : Int)), (41, .int .i64 (i : Int))] ([RoomC b ⟨X.label, X.ring, X.quota, X.most, R', mPuts X.M R'.seq (ws.take i)⟩, A])
    refine vc_seq ?_
    refine vc_region ?_
    refine vp ?_
    refine vc_nil ?_
    refine vc_then ?_
    refine vc_seq ?_
    first | refine vc_condP rfl (fun c42 => ?_) (fun c42 => ?_) | refine vc_condN rfl (fun c42 => ?_) (fun c42 => ?_) | refine vc_cond rfl (fun c42 => ?_) (fun c42 => ?_)
    ·skip
     have hi2 : i < ws.length := by omega
     refine vc_skip ?_
     refine vc_then ?_
     refine vc_seq ?_
     refine vc_block ?_
     refine vc_seq ?_
     refine vc_region ?_
     refine vc_y (y_elem 1 rfl (hv) i rfl hi2 sl_35 rfl rfl) rfl ?_
     refine vc_y (y_loadA 1 rfl (cs := [_, _, _, _, _]) ag_97 rfl (Rd.visA (hv) (List.getElem?_eq_getElem (by first | assumption | omega)) rfl)) rfl ?_
     refine vc_alloc [.string ⟨#[]⟩, .bool false, .bool false, .string ⟨#[]⟩, .int .u64 0] ze_97 rfl rfl (fun b12 => ?_)
     refine vc_storeP 0 rfl [_, _, _, _, _] [_, _, _, _, _] rfl rfl rfl sz_97 rfl rfl rfl ?_
     refine vc_nil ?_
     refine vc_then ?_
     refine vc_seq ?_
     refine vc_region ?_
     have hrt := hH.right hi2 hpi
     have hln := hpi.len
     have hle2 := hH.le
     refine vc_room 1 rfl (fun J relJ => ?_)
     refine vp ?_
     refine vc_y (y_fieldP fl_97_0 0 rfl rfl) rfl ?_
     refine vc_y (y_load1 7 rfl one_9 rfl (Pts.vis rfl)) rfl ?_
     refine vp ?_
     refine vc_y (y_fieldP fl_97_1 1 rfl rfl) rfl ?_
     refine vc_y (y_load1 7 rfl one_4 rfl (Pts.vis rfl)) rfl ?_
     refine vc_y (y_fieldP fl_97_2 2 rfl rfl) rfl ?_
     refine vc_y (y_loadA 7 rfl (cs := [_, _, _]) ag_45 rfl (Pts.visA rfl)) rfl ?_
     refine vc_y (y_build [(0, _), (1, _), (2, _)] [_, _, _, _, _] rfl (bu_135_0_1_2 _ _ _ _ _ rfl rfl)) rfl ?_
     refine vc_callv ca_73 (us := []) (vs := []) rfl [_, _, _] rfl [0, 0, 0, 0, 0, 0, 0] rfl (rput relJ hpi.ok (hmm.2 _ (List.getElem_mem hi2)) ⟨R'.seq, ws[i].gone, ws[i].val⟩ (by simp only; rw [hrt.1]; exact hrt.2) (by simp only; omega)) rfl ?_
     rintro _ _ ⟨rfl, rfl⟩
     refine vp ?_
     refine vc_nil ?_
     refine vc_then ?_
     refine vc_seq ?_
     refine vc_region ?_
     refine vp ?_
     refine vp ?_
     refine vc_nil ?_
     refine vc_then ?_
     first | refine vc_condP rfl (fun c56 => ?_) (fun c56 => ?_) | refine vc_condN rfl (fun c56 => ?_) (fun c56 => ?_) | refine vc_cond rfl (fun c56 => ?_) (fun c56 => ?_)
     ·skip
      simp at c56
     ·skip
      refine vc_skip ?_
      refine vc_inNormal ?_
      refine vc_then ?_
      refine vc_region ?_
      refine vc_re 0 rfl (congrArg (RoomC b) (congrArg (RmX.mk X.label X.ring X.quota X.most R') (mPuts_succ hi2).symm)) ?_
      first | refine vc_y (y_arith _ rfl (wrapNadd (by omega))) rfl ?_ | refine vc_y (y_arith _ rfl (wrap64 (by omega) (by omega))) rfl ?_ | refine vp ?_
      refine vp ?_
      refine vc_nil ?_
      refine vc_then ?_
      exact vc_again (x := i) (i + 1) ⟨hi2, hH.step hi2 hpi⟩ (by show ws.length - (i + 1) < ws.length - i; omega) ⟨rfl, rfl, rfl, rfl, rfl, rfl, trivial⟩ (ent_pick [0, 1] rfl)
    ·skip
     obtain rfl : i = ws.length := by omega
     rw [List.take_length]
     refine vc_exit ?_
     refine vc_thenExit ?_
     refine vc_thenExit ?_
     refine vc_inExit ?_
     refine vc_then ?_
     refine vc_seq ?_
     refine vc_region ?_
     iterate 3 refine vp ?_
     refine vc_nil ?_
     refine vc_then ?_
     refine vc_ret ?_
     exact vc_end2 Tryz.results15 rfl rfl _ (ent_pick [0, 0] rfl) ⟨by rw [hco], by rw [hco]⟩
theorem room_check {b : Nat} {X : RmX} (ok : X.ok) {A : HP} {h : SH} {ws : List Wr} (hv : Vis A (Rd eWr h ws)) (hb : ws.length ≤ 1000000) (seq : Int) : Does Tryz.prog 21 [.pointer (some ⟨b, 0, none⟩), h.v, .int .i64 seq] [RoomC b X, A] (fun v l => v = .int .i64 (checkE X ws seq) ∧ l = [RoomC b X, A]) :=
 room_does (r := [A]) fun I rel => Does.fin (rcheck0 rel ok hv hb seq) fun v l ⟨e, h⟩ => ⟨_, h ▸ ent_RmO rel (r := [A]), e, rfl⟩
theorem room_commit {b : Nat} {X : RmX} (ok : X.ok) {A : HP} {h : SH} {ws : List Wr} (hv : Vis A (Rd eWr h ws)) (hb : ws.length ≤ 1000000) (stamp : Int) (hbg : X.R.seq - X.R.begin < 900000) (hle : X.M.length + ws.length ≤ 100000 ∨ mayW ws = false) : Does Tryz.prog 15 [.pointer (some ⟨b, 0, none⟩), h.v, .int .u64 stamp] [RoomC b X, A] (fun v l => v = .tuple #[.int .i64 (commitX X ws stamp).1, .int .i64 (commitX X ws stamp).2.1] ∧ l = [RoomC b (commitX X ws stamp).2.2, A]) :=
 room_does (r := [A]) fun I rel => rcommit0 rel ok hv hb stamp hbg hle
end Go.Proofs.YtcpbibdbahfgaaaGreat
/-
 A room: its keys, sweeps, entries.
-/
set_option linter.unusedVariables false
set_option linter.unusedSimpArgs false
set_option autoImplicit false
set_option maxHeartbeats 4000000
namespace Go.Proofs.YtcpbibdbahfgaaaGreat
open Go.Eng
namespace FRoom4
theorem ca_138 : Callable Tryz.prog 138 := ⟨_, _, Tryz.func138, rfl, rfl⟩
theorem sz_9 : (Tryz.prog.info? 9).map (·.size) = some 1 := by kernel_rfl
theorem ze_9 : (Tryz.prog.info? 9).map (·.zero) = some (some (.string ⟨#[]⟩)) := by kernel_rfl
theorem bs_136_1 (v0 : Value) (h0 : v0.cells = #[v0]) (w : World) : (Instr.buildSlice 136 1 #[(0, v0)]).run Tryz.prog w = .ok (.slice (some ⟨w.heap.size, 0, none⟩) 1 1) { w with heap := w.heap.push (.cells #[v0] 9 (0, 0)) } :=
 Go.Eng.run_buildSlice Tryz.underlying136 sz_9 ze_9 (by decide) (by rw [show Array.range (1 * 1) = #[0] from by decide]; simp [Instr.fill, cells_agg, h0]) w
theorem el_136_eStr : TyEl Tryz.prog 136 eStr 16 := ⟨Tryz.underlying136, .string ⟨#[]⟩, by kernel_rfl, rfl⟩
theorem ca_82 : Callable Tryz.prog 82 := ⟨_, _, Tryz.func82, rfl, rfl⟩
theorem ep_28 : Tryz.prog.underlying 28 = some (.pointer (Tryz.prog.pointee 28)) := by kernel_rfl
theorem fl_132_2 : Fld Tryz.prog 132 2 5 := ⟨_, _, 0, Tryz.underlying132, rfl, rfl, by kernel_rfl⟩
theorem one_129 : TyOne Tryz.prog 129 := ⟨⟨_, Tryz.underlying129, rfl⟩, by kernel_rfl⟩
theorem ca_125 : Callable Tryz.prog 125 := ⟨_, _, Tryz.func125, rfl, rfl⟩
theorem ca_124 : Callable Tryz.prog 124 := ⟨_, _, Tryz.func124, rfl, rfl⟩
theorem ca_75 : Callable Tryz.prog 75 := ⟨_, _, Tryz.func75, rfl, rfl⟩
theorem sl_136 : TySl Tryz.prog 136 9 1 := ⟨Tryz.underlying136, by kernel_rfl⟩
theorem one_9 : TyOne Tryz.prog 9 := ⟨⟨_, Tryz.underlying9, rfl⟩, by kernel_rfl⟩
theorem ca_76 : Callable Tryz.prog 76 := ⟨_, _, Tryz.func76, rfl, rfl⟩
theorem ca_18 : Callable Tryz.prog 18 := ⟨_, _, Tryz.func18, rfl, rfl⟩
theorem ca_77 : Callable Tryz.prog 77 := ⟨_, _, Tryz.func77, rfl, rfl⟩
theorem ca_79 : Callable Tryz.prog 79 := ⟨_, _, Tryz.func79, rfl, rfl⟩
theorem ca_78 : Callable Tryz.prog 78 := ⟨_, _, Tryz.func78, rfl, rfl⟩
end FRoom4
open FRoom4
theorem sLt_nil (a : ByteArray) : sLt a ⟨#[]⟩ = false := by
 cases h : sLt a ⟨#[]⟩ with
 | false => rfl
 | true =>
  exfalso
  unfold sLt at h
  have e : (⟨#[]⟩ : ByteArray).toList = [] := by rw [ba_toList]
  rw [e] at h
  cases a.toList <;> simp [Op.bytesLess] at h
theorem lb_nil (l : List ByteArray) : lb l ⟨#[]⟩ = 0 := by
 cases l with
 | nil => rfl
 | cons a l => simp [lb, sLt_nil]
theorem nxt_first (m : Con) : nxt m ⟨#[]⟩ false = m[0]? := by unfold nxt; rw [lb_nil]; simp
theorem nxt_at {m : Con} (hr : Rise (ks m)) {j : Nat} {q : ByteArray × Int} (h : m[j]? = some q) : nxt m q.1 true = m[j + 1]? := by
 obtain ⟨h1, h2⟩ := lb_at hr (p := j) (k := q.1) (by unfold ks; rw [List.getElem?_map, h]; rfl)
 unfold nxt
 rw [h1, h2]; simp
theorem ks_take {m : Con} {i : Nat} {q : ByteArray × Int} (h : m[i]? = some q) : ks (m.take i) ++ [q.1] = ks (m.take (i + 1)) := by
 rw [List.take_succ_eq_append_getElem (getLt h), ks_append]
 have : m[i]'(getLt h) = q := by rw [List.getElem?_eq_getElem (getLt h)] at h; exact Option.some.inj h
 rw [this]; rfl
def swI (X : RmX) (i : Nat) : RmX := ⟨X.label, X.ring, X.quota, X.most, X.R, sweepM (X.M.take i) X.R.floor ++ X.M.drop i⟩
theorem swI_ok {X : RmX} (ok : X.ok) (i : Nat) : (swI X i).ok := by
 have h := ok.sweep
 refine ⟨ok.lab, ok.r1, ok.q, ok.mo, ok.rg, ok.rs, ok.sm, ok.bg, fun p hp => ?_, ?_, ?_⟩
 ·rcases List.mem_append.1 hp with hp | hp
  ·refine h.ps p ?_
   obtain ⟨q, hq, e⟩ := List.mem_filterMap.1 hp
   exact List.mem_filterMap.2 ⟨q, List.mem_of_mem_take hq, e⟩
  ·exact ok.ps p (List.mem_of_mem_drop hp)
 ·refine rise_subl ?_ ok.rise
  conv => rhs; rw [← List.take_append_drop i X.M]
  simp only [swI, ks_append]
  exact (sweep_ks _ _).append (List.Sublist.refl _)
 ·have h1 := ok.le
  have h2 := List.length_filterMap_le (sw1 X.R.floor) (X.M.take i)
  simp only [swI, sweepM, List.length_append, List.length_drop, List.length_take] at h2 ⊢
  omega
theorem swI_chain {X : RmX} {i : Nat} (ok : X.ok) (hi : i < X.M.length) : chainM (swI X i).M X.M[i].1 = X.M[i].2 :=
 chain_mem (swI_ok ok i).rise (List.mem_append_right _ (by rw [List.drop_eq_getElem_cons hi]; exact List.mem_cons_self))
theorem swI_lb {X : RmX} {i : Nat} (ok : X.ok) (hi : i < X.M.length) : lb (ks (swI X i).M) X.M[i].1 = (sweepM (X.M.take i) X.R.floor).length ∧ fnd (ks (swI X i).M) X.M[i].1 = true := by
 refine lb_at (swI_ok ok i).rise ?_
 simp only [swI, ks_append]
 rw [List.getElem?_append_right (by simp [ks]), List.drop_eq_getElem_cons hi]
 simp only [ks, List.length_map, Nat.sub_self, List.map_cons, List.getElem?_cons_zero]
theorem swI_succ {X : RmX} {i : Nat} (hi : i < X.M.length) : (swI X (i + 1)).M = sweepM (X.M.take i) X.R.floor ++ (match sw1 X.R.floor X.M[i] with | some q => [q] | none => []) ++ X.M.drop (i + 1) := by
 simp only [swI]
 rw [List.take_succ_eq_append_getElem hi, sweep_snoc]; rfl
theorem swI_none {X : RmX} {i : Nat} (ok : X.ok) (hi : i < X.M.length) (h : verOld X.M[i].2 X.R.floor = 0) : swI X (i + 1) = swI X i := by
 have hp := ok.ps _ (List.getElem_mem hi)
 have e : verSweep X.M[i].2 X.R.floor = X.M[i].2 := by unfold verSweep; rw [if_pos hp.c, h]; rfl
 have e2 : sw1 X.R.floor X.M[i] = some X.M[i] := by unfold sw1; rw [e, if_neg (by simpa using hp.ne)]
 have := swI_succ hi
 rw [e2] at this
 simp only [swI] at this ⊢
 rw [this, List.drop_eq_getElem_cons hi]
 simp
theorem swI_put {X : RmX} {i : Nat} (ok : X.ok) (hi : i < X.M.length) (h : verSweep X.M[i].2 X.R.floor ≠ []) : put1 (swI X i).M X.M[i].1 (verSweep X.M[i].2 X.R.floor) = (swI X (i + 1)).M := by
 have e2 : sw1 X.R.floor X.M[i] = some (X.M[i].1, verSweep X.M[i].2 X.R.floor) := by unfold sw1; rw [if_neg (by simpa using h)]
 rw [swI_succ hi, e2]
 unfold put1
 rw [(swI_lb ok hi).1]
 simp only [swI]
 rw [List.set_append_right _ _ (Nat.le_refl _), Nat.sub_self, List.drop_eq_getElem_cons hi, List.set_cons_zero, List.append_assoc, List.singleton_append]
theorem swI_dlt {X : RmX} {i : Nat} (ok : X.ok) (hi : i < X.M.length) (h : verSweep X.M[i].2 X.R.floor = []) : dlt (swI X i).M X.M[i].1 = (swI X (i + 1)).M := by
 have e2 : sw1 X.R.floor X.M[i] = none := by unfold sw1; rw [if_pos (by rw [h]; rfl)]
 rw [swI_succ hi, e2]
 unfold dlt
 rw [(swI_lb ok hi).1]
 simp only [swI]
 rw [List.take_left' rfl, List.drop_append, List.drop_eq_getElem_cons hi]
 simp
theorem sw_count {X : RmX} {i : Nat} (ok : X.ok) (hi : i < X.M.length) : versM (X.M.take (i + 1)) - versM (sweepM (X.M.take (i + 1)) X.R.floor) = versM (X.M.take i) - versM (sweepM (X.M.take i) X.R.floor) + (verOld X.M[i].2 X.R.floor : Int) := by
 have hp := ok.ps _ (List.getElem_mem hi)
 have hlo := verOld_le X.M[i].2 X.R.floor
 have e : (verSweep X.M[i].2 X.R.floor).length = X.M[i].2.length - verOld X.M[i].2 X.R.floor := by unfold verSweep; rw [if_pos hp.c, List.length_drop]
 rw [List.take_succ_eq_append_getElem hi, sweep_snoc]
 unfold versM
 rw [sumM_append, sumM_append]
 unfold sw1
 by_cases h : (verSweep X.M[i].2 X.R.floor).isEmpty = true
 ·rw [if_pos h]
  rw [List.isEmpty_iff] at h
  rw [h] at e
  simp only [sumM, List.length_nil] at e ⊢
  omega
 ·rw [if_neg h]
  simp only [sumM]
  omega
theorem lay_any {b : Nat} {X : RmX} {I : RmI} (rel : RmRel X I) (ok : X.ok) {key : ByteArray} (hk : key.size ≤ 32) {h : SH} {xs : List Ver} (hxb : xs.length ≤ 1000000) (hfk : fnd (ks X.M) key = true) :
  Does Tryz.prog 78 [.pointer (some ⟨b, 0, none⟩), .string key, h.v] (RmO b X I ++ [RoSl eVer h xs]) (fun v l => v = .tuple #[] ∧ l = [RoomC b ⟨X.label, X.ring, X.quota, X.most, X.R, if xs = [] then dlt X.M key else Eng.put1 X.M key xs⟩]) := by
 by_cases hn : xs = []
 ·have := lay_del (b := b) rel ok hk (h := h) hxb hfk hn
  rwa [if_pos hn]
 ·have := lay_put (b := b) rel ok hk (h := h) hxb hfk hn
  rwa [if_neg hn]
theorem tree_keys {b : Nat} {m : Con} (hr : Rise (ks m)) (hm : m.length ≤ 200000) : Does Tryz.prog 124 [.pointer (some ⟨b, 0, none⟩), .string ⟨#[]⟩, .int .i64 (m.length : Int)] [TreeC b m] (fun v l => ∃ h', v = h'.v ∧ l = [TreeC b m, Sl eStr h' (ks m)]) := by
 refine spec_of Tryz.func124 rfl Tryz.ntmps124 Tryz.results124 _ (by simp) fun ι F => ?_
 refine vc_seq ?_
 refine vc_region ?_
 refine vp ?_
 refine vc_nil ?_
 refine vc_then ?_
 refine vc_seq ?_
 refine vc_region ?_
 refine vp ?_
 refine vc_nil ?_
 refine vc_then ?_
 refine vc_seq ?_
 refine vc_region ?_
 refine vc_ent (l' := Sl eStr nilS [] :: _) sl_new ?_
 refine vp ?_
 refine vp ?_
 refine vc_callv ca_138 (us := []) (vs := []) rfl [_, _] rfl [1] rfl (Does.re (tree_seek ⟨#[]⟩) (show _ = resV m[0]? by rw [nxt_first])) rfl ?_
 rintro _ _ ⟨rfl, rfl⟩
 iterate 7 refine vp ?_
 refine vc_nil ?_
 refine vc_then ?_
 refine vc_seq ?_
 refine vc_block ?_
 refine vc_loop (α := Nat × SH) (fun xq_ => match xq_ with | (i, hh) => [(0, .pointer (some ⟨b, 0, none⟩)), (2, .int .i64 (m.length : Int)), (7, hh.v), (8, .string (resK m[i]?)), (10, .bool (resB m[i]?))]) (fun xq_ => match xq_ with | (i, hh) => [TreeC b m, Sl eStr hh (ks (m.take i))]) (fun xq_ => match xq_ with | (i, hh) => m.length - i) (fun xq_ => match xq_ with | (i, hh) => i ≤ m.length) (0, nilS) (Nat.zero_le _) ⟨rfl, rfl, rfl, rfl, rfl, trivial⟩ (ent_pick [0, 0] rfl) ?_
 rintro ⟨i, hh⟩ hi
 show VC _ _ _ _ [(0, .pointer (some ⟨b, 0, none⟩)), (2, .int .i64 (m.length : Int)), (7, hh.v), (8, .string (resK m[i]?)), (10, .bool (resB m[i]?))] ([TreeC b m, Sl eStr hh (ks (m.take i))])
 refine vc_seq ?_
 refine vc_seq ?_
 refine vc_region ?_
 have hkl : (ks (m.take i)).length = i := by simp [ks]; omega
 refine vc_see 1 rfl (Sl.vis.imp fun w r => r.len) (fun hlh => ?_)
 refine vp ?_
 refine vp ?_
 first | refine vc_splitP 19 rfl (fun c19 => ?_) (fun c19 => ?_) | refine vc_splitN 19 rfl (fun c19 => ?_) (fun c19 => ?_) | refine vc_split 19 rfl (fun c19 => ?_) (fun c19 => ?_)
 ·skip
  obtain ⟨q, hq⟩ : ∃ q, m[i]? = some q := by
   cases h0 : m[i]? with
   | none => rw [h0] at c19; cases c19
   | some q => exact ⟨q, rfl⟩
  have hi2 := getLt hq
  rw [hq]
  refine vc_guardT 19 rfl rfl ?_
  refine vp ?_
  refine vc_guardT 19 rfl rfl ?_
  refine vc_y (y_len Tryz.underlying136 rfl (by first | assumption | rfl)) rfl ?_
  refine vc_guardT 19 rfl rfl ?_
  refine vp ?_
  refine vc_guardT 19 rfl rfl ?_
  refine vp ?_
  refine vp ?_
  refine vc_nil ?_
  refine vc_then ?_
  first | refine vc_condP rfl (fun c24 => ?_) (fun c24 => ?_) | refine vc_condN rfl (fun c24 => ?_) (fun c24 => ?_) | refine vc_cond rfl (fun c24 => ?_) (fun c24 => ?_)
  ·skip
   refine vc_skip ?_
   refine vc_then ?_
   refine vc_block ?_
   refine vc_seq ?_
   refine vc_region ?_
   refine vp ?_
   refine vp ?_
   refine vc_buildSlice (E := eStr) [(0, _)] [q.1] rfl rfl (bs_136_1 _ rfl) rfl (fun h27 => ?_)
   refine vc_append 2 rfl 0 rfl (Sl.vis) el_136_eStr Tryz.underlying136 rfl rfl (by simp [ks]; omega) (by simp [ks]; omega) rfl (fun h28 => ?_)
   refine vc_re 2 rfl (congrArg (Sl eStr h28) (ks_take hq)) ?_
   refine vp ?_
   refine vc_nil ?_
   refine vc_then ?_
   refine vc_region ?_
   refine vp ?_
   refine vp ?_
   refine vc_callv ca_82 (us := []) (vs := []) rfl [_, _] rfl [1] rfl (Does.re (tree_after q.1) (show _ = resV m[i + 1]? by rw [nxt_at hr hq])) rfl ?_
   rintro _ _ ⟨rfl, rfl⟩
   iterate 6 refine vp ?_
   refine vc_nil ?_
   refine vc_inNormal ?_
   refine vc_then ?_
   exact vc_again (x := (i, hh)) (i + 1, h28) hi2 (by show m.length - (i + 1) < m.length - i; omega) ⟨rfl, rfl, rfl, rfl, rfl, trivial⟩ (ent_pick [0, 1] rfl)
  ·skip
   exact absurd c24 (by rw [hkl]; omega)
 ·skip
  have hq : m[i]? = none := by
   cases h0 : m[i]? with
   | none => rfl
   | some q => rw [h0] at c19; cases c19
  have hnl : ¬ i < m.length := fun h0 => by rw [List.getElem?_eq_getElem h0] at hq; cases hq
  obtain rfl : i = m.length := by omega
  rw [List.take_length]
  refine vc_guardF 19 rfl rfl rfl rfl ?_
  refine vc_guardF 19 rfl rfl rfl rfl ?_
  refine vc_guardF 19 rfl rfl rfl rfl ?_
  refine vc_guardF 19 rfl rfl rfl rfl ?_
  refine vp ?_
  refine vc_nil ?_
  refine vc_then ?_
  refine vc_condF rfl ?_
  refine vc_exit ?_
  refine vc_thenExit ?_
  refine vc_thenExit ?_
  refine vc_inExit ?_
  refine vc_then ?_
  refine vc_seq ?_
  refine vc_region ?_
  refine vp ?_
  refine vp ?_
  refine vc_nil ?_
  refine vc_then ?_
  refine vc_ret ?_
  exact vc_end1 Tryz.results124 rfl _ (ent_pick [0, 0] rfl) ⟨hh, rfl, rfl⟩
theorem rall0 {b : Nat} {X : RmX} {I : RmI} (rel : RmRel X I) (ok : X.ok) : Does Tryz.prog 75 [.pointer (some ⟨b, 0, none⟩)] (RmO b X I) (fun v l => ∃ h', v = h'.v ∧ l = RmO b X I ++ [Sl eStr h' (ks X.M)]) := by
 refine spec_of Tryz.func75 rfl Tryz.ntmps75 Tryz.results75 _ (by simp) fun ι F => ?_
 have hrt : Rise (ks I.t) := by rw [← rel.ks]; exact ok.rise
 have hlt : I.t.length ≤ 200000 := by have := ok.le; rw [rel.m, List.length_map] at this; omega
 refine vc_seq ?_
 refine vc_region ?_
 refine vp ?_
 refine vc_nil ?_
 refine vc_then ?_
 refine vc_seq ?_
 refine vc_seq ?_
 refine vc_region ?_
 refine vp ?_
 refine vc_y (y_eqNil ep_28 rfl rfl) rfl ?_
 refine vc_nil ?_
 refine vc_then ?_
 refine vc_condF rfl ?_
 refine vc_skip ?_
 refine vc_then ?_
 refine vc_seq ?_
 refine vc_draw (by kernel_rfl) _ none [0] rfl ?_
 refine tpp 0 ?_
 refine tpp 1 ?_
 refine tp 2 rfl (by exact y_fieldP fl_132_2 5 rfl rfl) ?_
 refine tk 3 rfl (by exact y_load1 0 rfl one_129 rfl (Pts.vis rfl)) ?_
 refine tpp 4 ?_
 refine tpp 5 ?_
 refine tp 6 rfl (by exact y_fieldP fl_132_2 5 rfl rfl) ?_
 refine tk 7 rfl (by exact y_load1 0 rfl one_129 rfl (Pts.vis rfl)) ?_
 refine va_ready [8] (by kernel_rfl) rfl ?_
 refine vo_cons rfl (fun hC0 => ?_) ?_
 ·skip
  refine vc_callv ca_125 (us := []) (vs := []) rfl [_] rfl [3] rfl (tree_len) rfl ?_
  rintro _ _ ⟨rfl, rfl⟩
  refine vc_nil ?_
  refine vc_then ?_
  refine va_kept hC0 [1] rfl ?_
  clear hC0
  refine va_ready [9] (by kernel_rfl) rfl ?_
  refine vo_cons rfl (fun hC0 => ?_) ?_
  ·skip
   refine vc_callv ca_124 (us := []) (vs := []) rfl [_, _, _] rfl [0] rfl (tree_keys hrt hlt) rfl ?_
   rintro _ _ ⟨g, rfl, rfl⟩
   refine vc_nil ?_
   refine vc_then ?_
   refine va_kept hC0 [2] rfl ?_
   clear hC0
   refine tpp 10 ?_
   refine va_done (by kernel_rfl) ?_
   refine vc_then ?_
   refine vc_ret ?_
   exact vc_end1 Tryz.results75 rfl _ (ent_pick [2, 2, 2, 0, 1, 1, 1, 0] rfl) ⟨g, rfl, by rw [rel.ks]; rfl⟩
  exact vo_nil
 exact vo_nil
theorem swI_step {X : RmX} {i : Nat} (ok : X.ok) (hi : i < X.M.length) : (⟨X.label, X.ring, X.quota, X.most, X.R, if verSweep X.M[i].2 X.R.floor = [] then dlt (swI X i).M X.M[i].1 else Eng.put1 (swI X i).M X.M[i].1 (verSweep X.M[i].2 X.R.floor)⟩ : RmX) = swI X (i + 1) := by
 by_cases h : verSweep X.M[i].2 X.R.floor = []
 ·rw [if_pos h, swI_dlt ok hi h]; rfl
 ·rw [if_neg h, swI_put ok hi h]; rfl
theorem ks_get {X : RmX} {i : Nat} (hi : i < X.M.length) : (ks X.M)[i]? = some X.M[i].1 := by unfold ks; rw [List.getElem?_map, List.getElem?_eq_getElem hi]; rfl
theorem sweep_snoc' (p : ByteArray × List Ver) (r : Mp) (f : Int) : sweepM (p :: r) f = (match sw1 f p with | some q => [q] | none => []) ++ sweepM r f := by
 unfold sweepM
 rw [List.filterMap_cons]
 cases sw1 f p <;> rfl
theorem sw_bound {X : RmX} {i : Nat} {n : Int} (ok : X.ok) (hi : i ≤ X.M.length) (hn : n = versM (X.M.take i) - versM (sweepM (X.M.take i) X.R.floor)) : 0 ≤ n ∧ n ≤ versM X.M := by
 have h1 : ∀ (M : Mp), 0 ≤ versM M ∧ 0 ≤ versM M - versM (sweepM M X.R.floor) ∧ 0 ≤ versM (sweepM M X.R.floor) := by
  intro M
  induction M with
  | nil => simp [versM, sumM, sweepM]
  | cons p r ih =>
   have hl := verSweep_len p.2 X.R.floor
   have e : sweepM (p :: r) X.R.floor = (match sw1 X.R.floor p with | some q => [q] | none => []) ++ sweepM r X.R.floor := sweep_snoc' p r X.R.floor
   rw [e]
   unfold versM at *
   rw [sumM_append]
   unfold sw1
   split <;> rename_i h <;> split at h <;> simp only [sumM] <;> first | omega | (cases h; done) | (obtain rfl := Option.some.inj h; simp only; omega)
 have h2 := h1 (X.M.take i)
 have h3 := h1 (X.M.drop i)
 have h4 : versM X.M = versM (X.M.take i) + versM (X.M.drop i) := by
  conv => lhs; rw [← List.take_append_drop i X.M]
  exact sumM_append _ _ _
 omega
theorem rsweep0 {b : Nat} {X : RmX} {I : RmI} (rel : RmRel X I) (ok : X.ok) : Does Tryz.prog 17 [.pointer (some ⟨b, 0, none⟩)] (RmO b X I) (fun v l => v = .int .i64 (versM X.M - versM (sweepM X.M X.R.floor)) ∧ l = [RoomC b (swX X)]) := by
 refine spec_of Tryz.func17 rfl Tryz.ntmps17 Tryz.results17 _ (by simp) fun ι F => ?_
 have hvs := ok.vers
 have hle := ok.le
 refine vc_seq ?_
 refine vc_region ?_
 refine vp ?_
 refine vc_nil ?_
 refine vc_then ?_
 refine vc_seq ?_
 refine vc_region ?_
 refine vp ?_
 refine vc_nil ?_
 refine vc_then ?_
 refine vc_seq ?_
 refine vc_seq ?_
 refine vc_region ?_
 refine vp ?_
 refine vc_callv ca_75 (us := []) (vs := []) rfl [_] rfl [0, 0, 0, 0, 0, 0, 0] rfl (rall0 rel ok) rfl ?_
 rintro _ _ ⟨hk, rfl, rfl⟩
 refine vc_see 7 rfl (Sl.vis.imp fun w r => r.len) (fun hlk => ?_)
 have hlk2 : hk.len = X.M.length := by rw [hlk]; simp [ks]
 refine vc_y (y_len Tryz.underlying136 rfl hlk2) rfl ?_
 refine vp ?_
 refine vc_ent (ent_at [0, 0, 0, 0, 0, 0, 0, 0] rfl (ent_RmO (X := swI X 0) (I := I) ⟨rel.m, rel.pos, rel.perm, rel.hl, rel.le⟩ (r := [Sl eStr hk (ks X.M)]))) ?_
 refine vc_nil ?_
 refine vc_then ?_
 refine vc_block ?_
 refine vc_loop (α := Nat × Int) (fun xq_ => match xq_ with | (i, n) => [(0, .pointer (some ⟨b, 0, none⟩)), (3, .int .i64 n), (9, hk.v), (10, .int .i64 (X.M.length : Int)), (11, .int .i64 (i : Int))]) (fun xq_ => match xq_ with | (i, n) => [RoomC b (swI X i), Sl eStr hk (ks X.M)]) (fun xq_ => match xq_ with | (i, n) => X.M.length - i) (fun xq_ => match xq_ with | (i, n) => i ≤ X.M.length ∧ n = versM (X.M.take i) - versM (sweepM (X.M.take i) X.R.floor)) (0, 0) ⟨Nat.zero_le _, by simp [versM, sumM, sweepM]⟩ ⟨rfl, rfl, rfl, rfl, rfl, trivial⟩ (ent_pick [0, 0] rfl) ?_
 rintro ⟨i, n⟩ ⟨hi, hn⟩
 show VC _ _ _ _ [(0, .pointer (some ⟨b, 0, none⟩)), (3, .int .i64 n), (9, hk.v), (10, .int .i64 (X.M.length : Int)), (11, .int .i64 (i : Int))] ([RoomC b (swI X i), Sl eStr hk (ks X.M)])
 refine vc_seq ?_
 refine vc_region ?_
 refine vp ?_
 refine vc_nil ?_
 refine vc_then ?_
 refine vc_seq ?_
 first | refine vc_condP rfl (fun c12 => ?_) (fun c12 => ?_) | refine vc_condN rfl (fun c12 => ?_) (fun c12 => ?_) | refine vc_cond rfl (fun c12 => ?_) (fun c12 => ?_)
 ·skip
  have hi2 : i < X.M.length := by omega
  have hio := swI_ok ok i
  have hch := swI_chain ok hi2
  have hlb := swI_lb ok hi2
  have hpo := ok.ps _ (List.getElem_mem hi2)
  have hcl : X.M[i].2.length ≤ 1000000 := by have := hpo.len; have := ok.bg; omega
  have hol := verOld_le X.M[i].2 X.R.floor
  have hfl : X.R.floor ≤ 9223372036854775807 := by have := ok.rg.b1; have := ok.rg.q; have := ok.rg.s1; have := ok.rg.s2; unfold RR.floor; omega
  have hnb : 0 ≤ n ∧ n ≤ versM X.M := sw_bound ok hi hn
  have hsb : n + (verOld X.M[i].2 X.R.floor : Int) ≤ versM X.M := (sw_bound ok hi2 (by rw [hn, sw_count ok hi2])).2
  refine vc_skip ?_
  refine vc_then ?_
  refine vc_seq ?_
  refine vc_block ?_
  refine vc_seq ?_
  refine vc_region ?_
  refine vc_room 0 rfl (fun J relJ => ?_)
  have hvo := relJ.vis X.M[i].1
  rw [hch] at hvo
  refine vc_y (y_elem 7 rfl (Sl.vis) i rfl (by simp [ks]; omega) sl_136 rfl rfl) rfl ?_
  refine vc_y (y_load1 7 rfl one_9 rfl (Rd.vis1 (Sl.vis) (ks_get hi2) rfl)) rfl ?_
  refine vp ?_
  refine vc_nil ?_
  refine vc_then ?_
  refine vc_seq ?_
  refine vc_region ?_
  refine vp ?_
  refine vp ?_
  refine vc_callv ca_76 (us := []) (vs := []) rfl [_, _] rfl [0, 0, 0, 0, 0, 0, 0] rfl (rchain0 relJ X.M[i].1) rfl ?_
  rintro _ _ ⟨rfl, rfl⟩
  refine vp ?_
  refine vc_nil ?_
  refine vc_then ?_
  refine vc_seq ?_
  refine vc_region ?_
  refine vp ?_
  refine vp ?_
  refine vc_callv ca_18 (us := []) (vs := []) rfl [_] rfl [0, 0, 0, 0, 0, 0, 0] rfl (rfloor0 relJ hio) rfl ?_
  rintro _ _ ⟨rfl, rfl⟩
  refine vc_callv ca_77 (us := []) (vs := []) rfl [_, _] rfl [6] rfl (Old_spec (seq := X.R.floor) hvo hcl hfl) rfl ?_
  rintro _ _ ⟨rfl, rfl⟩
  refine vp ?_
  refine vc_nil ?_
  refine vc_then ?_
  refine vc_seq ?_
  refine vc_seq ?_
  refine vc_region ?_
  refine vp ?_
  refine vp ?_
  refine vc_nil ?_
  refine vc_then ?_
  first | refine vc_condP rfl (fun c23 => ?_) (fun c23 => ?_) | refine vc_condN rfl (fun c23 => ?_) (fun c23 => ?_) | refine vc_cond rfl (fun c23 => ?_) (fun c23 => ?_)
  ·skip
   refine vc_region ?_
   iterate 4 refine vp ?_
   refine vc_callv ca_18 (us := []) (vs := []) rfl [_] rfl [1, 1, 1, 1, 1, 1, 0] rfl (rfloor0 relJ hio) rfl ?_
   rintro _ _ ⟨rfl, rfl⟩
   refine vc_callv ca_79 (us := []) (vs := []) rfl [_, _] rfl [6] rfl (Sweep_spec (seq := X.R.floor) hvo hcl hfl) rfl ?_
   rintro _ _ ⟨g, rfl, rfl⟩
   refine vc_turn 0 rfl (RoSl eVer g (verSweep X.M[i].2 X.R.floor)) Sl.share ?_
   refine vc_callv ca_78 (us := []) (vs := []) rfl [_, _, _] rfl [2, 2, 2, 2, 2, 2, 1, 0] rfl (lay_any relJ hio hpo.k2 (by have := verSweep_len X.M[i].2 X.R.floor; omega) hlb.2) rfl ?_
   rintro _ _ ⟨rfl, rfl⟩
   refine vc_nil ?_
   refine vc_then ?_
   refine vc_region ?_
   refine vc_re 0 rfl (congrArg (RoomC b) (swI_step ok hi2)) ?_
   refine vp ?_
   refine vp ?_
   first | refine vc_y (y_arith _ rfl (wrap64 (by omega) (by omega))) rfl ?_ | refine vp ?_
   refine vp ?_
   refine vc_nil ?_
   refine vc_inNormal ?_
   refine vc_then ?_
   refine vc_region ?_
   first | refine vc_y (y_arith _ rfl (wrapNadd (by omega))) rfl ?_ | refine vc_y (y_arith _ rfl (wrap64 (by omega) (by omega))) rfl ?_ | refine vp ?_
   refine vp ?_
   skip
   refine vc_nil ?_
   refine vc_then ?_
   exact vc_again (x := (i, n)) (i + 1, n + (verOld X.M[i].2 X.R.floor : Int)) ⟨hi2, by rw [hn, sw_count ok hi2]⟩ (by show X.M.length - (i + 1) < X.M.length - i; omega) ⟨rfl, rfl, rfl, rfl, rfl, trivial⟩ (ent_pick [0, 0] rfl)
  ·skip
   refine vc_skip ?_
   refine vc_then ?_
   refine vc_region ?_
   have hz : verOld X.M[i].2 X.R.floor = 0 := by omega
   refine vc_ent (ent_at [1, 1, 1, 1, 1, 1, 0, 0] rfl (ent_RmO relJ (r := [Sl eStr hk (ks X.M)]))) ?_
   refine vc_re 0 rfl (congrArg (RoomC b) (swI_none ok hi2 hz).symm) ?_
   refine vp ?_
   refine vp ?_
   first | refine vc_y (y_arith _ rfl (wrap64 (by omega) (by omega))) rfl ?_ | refine vp ?_
   refine vp ?_
   refine vc_nil ?_
   refine vc_inNormal ?_
   refine vc_then ?_
   refine vc_region ?_
   first | refine vc_y (y_arith _ rfl (wrapNadd (by omega))) rfl ?_ | refine vc_y (y_arith _ rfl (wrap64 (by omega) (by omega))) rfl ?_ | refine vp ?_
   refine vp ?_
   skip
   refine vc_nil ?_
   refine vc_then ?_
   exact vc_again (x := (i, n)) (i + 1, n + (verOld X.M[i].2 X.R.floor : Int)) ⟨hi2, by rw [hn, sw_count ok hi2]⟩ (by show X.M.length - (i + 1) < X.M.length - i; omega) ⟨rfl, rfl, rfl, rfl, rfl, trivial⟩ (ent_pick [0, 0] rfl)
 ·skip
  obtain rfl : i = X.M.length := by omega
  rw [List.take_length] at hn
  refine vc_exit ?_
  refine vc_thenExit ?_
  refine vc_thenExit ?_
  refine vc_inExit ?_
  refine vc_then ?_
  refine vc_seq ?_
  refine vc_region ?_
  refine vp ?_
  refine vp ?_
  refine vc_nil ?_
  refine vc_then ?_
  refine vc_ret ?_
  exact vc_end1 Tryz.results17 rfl _ (ent_pick [0] rfl) ⟨by rw [hn], by simp only [swI, swX, List.take_length, List.drop_length, List.append_nil]⟩
end Go.Proofs.YtcpbibdbahfgaaaGreat
/-
 A room: its entries, its setting.
-/
set_option linter.unusedVariables false
set_option linter.unusedSimpArgs false
set_option autoImplicit false
set_option maxHeartbeats 4000000
namespace Go.Proofs.YtcpbibdbahfgaaaGreat
open Go.Eng
namespace FRoom5
theorem ca_75 : Callable Tryz.prog 75 := ⟨_, _, Tryz.func75, rfl, rfl⟩
theorem sl_136 : TySl Tryz.prog 136 9 1 := ⟨Tryz.underlying136, by kernel_rfl⟩
theorem one_9 : TyOne Tryz.prog 9 := ⟨⟨_, Tryz.underlying9, rfl⟩, by kernel_rfl⟩
theorem ca_76 : Callable Tryz.prog 76 := ⟨_, _, Tryz.func76, rfl, rfl⟩
theorem ca_16 : Callable Tryz.prog 16 := ⟨_, _, Tryz.func16, rfl, rfl⟩
theorem ca_81 : Callable Tryz.prog 81 := ⟨_, _, Tryz.func81, rfl, rfl⟩
theorem ze_135 : (Tryz.prog.info? 135).map (·.zero) = some (some (.agg #[.int .i64 0, .bool false, .bool false, .string ⟨#[]⟩, .int .u64 0])) := by kernel_rfl
theorem sz_135 : (Tryz.prog.info? 135).map (·.size) = some 5 := by kernel_rfl
theorem fl_135_0 : Fld Tryz.prog 135 0 0 := ⟨_, _, 0, Tryz.underlying135, rfl, rfl, by kernel_rfl⟩
theorem one_3 : TyOne Tryz.prog 3 := ⟨⟨_, Tryz.underlying3, rfl⟩, by kernel_rfl⟩
theorem fl_135_2 : Fld Tryz.prog 135 2 2 := ⟨_, _, 2, Tryz.underlying135, rfl, rfl, by kernel_rfl⟩
theorem ag_45 : TyAgg Tryz.prog 45 3 := ⟨⟨_, Tryz.underlying45, rfl⟩, by kernel_rfl⟩
theorem ze_56 : (Tryz.prog.info? 56).map (·.zero) = some (some (.agg #[.string ⟨#[]⟩, .int .i64 0, .bool false, .string ⟨#[]⟩, .int .u64 0])) := by kernel_rfl
theorem bu_56_0_1_2 (v0 : Value) (v1 : Value) (v2_0 v2_1 v2_2 : Value) (h0 : v0.cells = #[v0]) (h1 : v1.cells = #[v1]) (w : World) : (Instr.build 56 #[(0, v0), (1, v1), (2, .agg #[v2_0, v2_1, v2_2])]).run Tryz.prog w = .ok (.agg #[v0, v1, v2_0, v2_1, v2_2]) w := by
 have hz := @ze_56
 exact Go.Eng.run_build (pl := [(0, 1), (1, 1), (2, 3)]) hz Tryz.underlying56 (by kernel_rfl) rfl (by simp [Instr.fill, h0, h1, cells_agg]) w
theorem sz_56 : (Tryz.prog.info? 56).map (·.size) = some 5 := by kernel_rfl
theorem bs_52_1 (v0_0 v0_1 v0_2 v0_3 v0_4 : Value)  (w : World) : (Instr.buildSlice 52 1 #[(0, .agg #[v0_0, v0_1, v0_2, v0_3, v0_4])]).run Tryz.prog w = .ok (.slice (some ⟨w.heap.size, 0, none⟩) 1 1) { w with heap := w.heap.push (.cells #[v0_0, v0_1, v0_2, v0_3, v0_4] 56 (0, 0)) } :=
 Go.Eng.run_buildSlice Tryz.underlying52 sz_56 ze_56 (by decide) (by rw [show Array.range (1 * 5) = #[0, 1, 2, 3, 4] from by decide]; simp [Instr.fill, cells_agg]) w
theorem el_52_eEn : TyEl Tryz.prog 52 eEn 56 := ⟨Tryz.underlying52, .agg #[.string ⟨#[]⟩, .int .i64 0, .bool false, .string ⟨#[]⟩, .int .u64 0], by kernel_rfl, rfl⟩
theorem ze_24 : (Tryz.prog.info? 24).map (·.zero) = some (some (.agg #[.slice none 0 0, .int .i64 0, .int .i64 0, .int .i64 0])) := by kernel_rfl
theorem ep_28 : Tryz.prog.underlying 28 = some (.pointer (Tryz.prog.pointee 28)) := by kernel_rfl
theorem fl_132_0 : Fld Tryz.prog 132 0 0 := ⟨_, _, 3, Tryz.underlying132, rfl, rfl, by kernel_rfl⟩
theorem ag_24 : TyAgg Tryz.prog 24 4 := ⟨⟨_, Tryz.underlying24, rfl⟩, by kernel_rfl⟩
theorem sz_24 : (Tryz.prog.info? 24).map (·.size) = some 4 := by kernel_rfl
theorem fl_24_0 : Fld Tryz.prog 24 0 0 := ⟨_, _, 0, Tryz.underlying24, rfl, rfl, by kernel_rfl⟩
theorem one_22 : TyOne Tryz.prog 22 := ⟨⟨_, Tryz.underlying22, rfl⟩, by kernel_rfl⟩
theorem ca_101 : Callable Tryz.prog 101 := ⟨_, _, Tryz.func101, rfl, rfl⟩
theorem sz_22 : (Tryz.prog.info? 22).map (·.size) = some 1 := by kernel_rfl
end FRoom5
open FRoom5
theorem rent0 {b : Nat} {X : RmX} {I : RmI} (rel : RmRel X I) (ok : X.ok) : Does Tryz.prog 26 [.pointer (some ⟨b, 0, none⟩)] (RmO b X I) (fun v l => ∃ h', v = h'.v ∧ l = RmO b X I ++ [Sl eEn h' (entM X.M X.R.seq)]) := by
 refine spec_of Tryz.func26 rfl Tryz.ntmps26 Tryz.results26 _ (by simp) fun ι F => ?_
 have hle := ok.le
 have hsq : X.R.seq ≤ 9223372036854775807 := by have := ok.rg.q; omega
 refine vc_seq ?_
 refine vc_region ?_
 refine vp ?_
 refine vc_nil ?_
 refine vc_then ?_
 refine vc_seq ?_
 refine vc_region ?_
 refine vp ?_
 refine vc_nil ?_
 refine vc_then ?_
 refine vc_seq ?_
 refine vc_seq ?_
 refine vc_region ?_
 refine vc_ent (l' := Sl eEn nilS [] :: _) sl_new ?_
 refine vp ?_
 refine vc_callv ca_75 (us := []) (vs := []) rfl [_] rfl [1, 1, 1, 1, 1, 1, 1] rfl (rall0 rel ok) rfl ?_
 rintro _ _ ⟨hk, rfl, rfl⟩
 refine vc_see 7 rfl (Sl.vis.imp fun w r => r.len) (fun hlk => ?_)
 have hlk2 : hk.len = X.M.length := by rw [hlk]; simp [ks]
 refine vc_y (y_len Tryz.underlying136 rfl hlk2) rfl ?_
 refine vp ?_
 refine vc_nil ?_
 refine vc_then ?_
 refine vc_block ?_
 refine vc_loop (α := Nat × SH × List En) (fun xq_ => match xq_ with | (i, hh, es) => [(0, .pointer (some ⟨b, 0, none⟩)), (3, hh.v), (9, hk.v), (10, .int .i64 (X.M.length : Int)), (11, .int .i64 (i : Int))]) (fun xq_ => match xq_ with | (i, hh, es) => RmO b X I ++ [Sl eStr hk (ks X.M), Sl eEn hh es]) (fun xq_ => match xq_ with | (i, hh, es) => X.M.length - i) (fun xq_ => match xq_ with | (i, hh, es) => i ≤ X.M.length ∧ es = entM (X.M.take i) X.R.seq ∧ es.length ≤ i) (0, nilS, []) ⟨Nat.zero_le _, rfl, Nat.le_refl _⟩ ⟨rfl, rfl, rfl, rfl, rfl, trivial⟩ (ent_pick [0, 0, 0, 0, 0, 0, 0, 0, 0] rfl) ?_
 rintro ⟨i, hh, es⟩ ⟨hi, hst, hul⟩
 show VC _ _ _ _ [(0, .pointer (some ⟨b, 0, none⟩)), (3, hh.v), (9, hk.v), (10, .int .i64 (X.M.length : Int)), (11, .int .i64 (i : Int))] (RmO b X I ++ [Sl eStr hk (ks X.M), Sl eEn hh es])
 refine vc_seq ?_
 refine vc_region ?_
 refine vp ?_
 refine vc_nil ?_
 refine vc_then ?_
 refine vc_seq ?_
 first | refine vc_condP rfl (fun c12 => ?_) (fun c12 => ?_) | refine vc_condN rfl (fun c12 => ?_) (fun c12 => ?_) | refine vc_cond rfl (fun c12 => ?_) (fun c12 => ?_)
 ·skip
  have hi2 : i < X.M.length := by omega
  have hch := chain_mem ok.rise (List.getElem_mem hi2)
  have hpo := ok.ps _ (List.getElem_mem hi2)
  have hcl : X.M[i].2.length ≤ 1000000 := by have := hpo.len; have := ok.bg; omega
  have hvo := rel.vis X.M[i].1
  rw [hch] at hvo
  have hsn : entM (X.M.take (i + 1)) X.R.seq = entM (X.M.take i) X.R.seq ++ (match verAt X.M[i].2 X.R.seq with | some v => [⟨X.M[i].1, v.seq, v.val⟩] | none => []) := by rw [List.take_succ_eq_append_getElem hi2]; exact ent_snoc _ _ _
  refine vc_skip ?_
  refine vc_then ?_
  refine vc_seq ?_
  refine vc_block ?_
  refine vc_seq ?_
  refine vc_region ?_
  refine vc_y (y_elem 7 rfl (Sl.vis) i rfl (by simp [ks]; omega) sl_136 rfl rfl) rfl ?_
  refine vc_y (y_load1 7 rfl one_9 rfl (Rd.vis1 (Sl.vis) (ks_get hi2) rfl)) rfl ?_
  refine vp ?_
  refine vc_nil ?_
  refine vc_then ?_
  refine vc_seq ?_
  refine vc_region ?_
  refine vp ?_
  refine vp ?_
  refine vc_callv ca_76 (us := []) (vs := []) rfl [_, _] rfl [0, 0, 0, 0, 0, 0, 0] rfl (rchain0 rel X.M[i].1) rfl ?_
  rintro _ _ ⟨rfl, rfl⟩
  refine vp ?_
  refine vc_callv ca_16 (us := []) (vs := []) rfl [_] rfl [0, 0, 0, 0, 0, 0, 0] rfl (rseq0 rel ok) rfl ?_
  rintro _ _ ⟨rfl, rfl⟩
  refine vc_callv ca_81 (us := []) (vs := []) rfl [_, _] rfl [6] rfl (At_spec hvo hcl hsq) rfl ?_
  rintro _ _ ⟨rfl, rfl⟩
  iterate 3 refine vp ?_
  refine vc_alloc [.int .i64 0, .bool false, .bool false, .string ⟨#[]⟩, .int .u64 0] ze_135 rfl rfl (fun b6 => ?_)
  refine vc_storeP 0 rfl [_, _, _, _, _] [_, _, _, _, _] rfl rfl rfl sz_135 rfl rfl rfl ?_
  refine vp ?_
  refine vc_nil ?_
  refine vc_then ?_
  refine vc_seq ?_
  refine vc_region ?_
  refine vp ?_
  refine vc_nil ?_
  refine vc_then ?_
  first | refine vc_condP rfl (fun c24 => ?_) (fun c24 => ?_) | refine vc_condN rfl (fun c24 => ?_) (fun c24 => ?_) | refine vc_cond rfl (fun c24 => ?_) (fun c24 => ?_)
  ·skip
   obtain ⟨x, hx⟩ : ∃ x, verAt X.M[i].2 X.R.seq = some x := by
    cases h0 : verAt X.M[i].2 X.R.seq with
    | none => rw [h0] at c24; cases c24
    | some x => exact ⟨x, rfl⟩
   rw [hx]
   refine vc_region ?_
   refine vp ?_
   refine vp ?_
   refine vc_y (y_fieldP fl_135_0 0 rfl rfl) rfl ?_
   refine vc_y (y_load1 0 rfl one_3 rfl (Pts.vis rfl)) rfl ?_
   refine vc_y (y_fieldP fl_135_2 2 rfl rfl) rfl ?_
   refine vc_y (y_loadA 0 rfl (cs := [_, _, _]) ag_45 rfl (Pts.visA rfl)) rfl ?_
   refine vc_y (y_build [(0, _), (1, _), (2, _)] [_, _, _, _, _] rfl (bu_56_0_1_2 _ _ _ _ _ rfl rfl)) rfl ?_
   refine vc_buildSlice (E := eEn) [(0, _)] [⟨X.M[i].1, x.seq, x.val⟩] rfl rfl (bs_52_1 _ _ _ _ _ ) rfl (fun h32 => ?_)
   refine vc_append 10 rfl 0 rfl (Sl.vis) el_52_eEn Tryz.underlying52 rfl rfl (by simp; omega) (by simp; omega) rfl (fun h33 => ?_)
   refine vp ?_
   refine vc_nil ?_
   refine vc_inNormal ?_
   refine vc_then ?_
   refine vc_region ?_
   first | refine vc_y (y_arith _ rfl (wrapNadd (by omega))) rfl ?_ | refine vc_y (y_arith _ rfl (wrap64 (by omega) (by omega))) rfl ?_ | refine vp ?_
   refine vp ?_
   refine vc_nil ?_
   refine vc_then ?_
   first | exact vc_again (x := (i, hh, es)) (i + 1, h33, es ++ [⟨X.M[i].1, x.seq, x.val⟩]) ⟨hi2, by rw [hsn, hx, hst], by simp; omega⟩ (by show X.M.length - (i + 1) < X.M.length - i; omega) ⟨rfl, rfl, rfl, rfl, rfl, trivial⟩ (ent_pick [3, 3, 3, 3, 3, 3, 2, 2, 2] rfl) | exact vc_again (x := (i, hh, es)) (i + 1, hh, es) ⟨hi2, by rw [hsn, hx, hst]; simp, by omega⟩ (by show X.M.length - (i + 1) < X.M.length - i; omega) ⟨rfl, rfl, rfl, rfl, rfl, trivial⟩ (ent_pick [3, 3, 3, 3, 3, 3, 2, 2, 2] rfl)
  ·skip
   have hx : verAt X.M[i].2 X.R.seq = none := by
    cases h0 : verAt X.M[i].2 X.R.seq with
    | none => rfl
    | some x => rw [h0] at c24; cases c24
   refine vc_skip ?_
   refine vc_inNormal ?_
   refine vc_then ?_
   refine vc_region ?_
   first | refine vc_y (y_arith _ rfl (wrapNadd (by omega))) rfl ?_ | refine vc_y (y_arith _ rfl (wrap64 (by omega) (by omega))) rfl ?_ | refine vp ?_
   refine vp ?_
   refine vc_nil ?_
   refine vc_then ?_
   first | exact vc_again (x := (i, hh, es)) (i + 1, h33, es ++ [⟨X.M[i].1, x.seq, x.val⟩]) ⟨hi2, by rw [hsn, hx, hst], by simp; omega⟩ (by show X.M.length - (i + 1) < X.M.length - i; omega) ⟨rfl, rfl, rfl, rfl, rfl, trivial⟩ (ent_pick [2, 2, 2, 2, 2, 2, 1, 1, 1] rfl) | exact vc_again (x := (i, hh, es)) (i + 1, hh, es) ⟨hi2, by rw [hsn, hx, hst]; simp, by omega⟩ (by show X.M.length - (i + 1) < X.M.length - i; omega) ⟨rfl, rfl, rfl, rfl, rfl, trivial⟩ (ent_pick [2, 2, 2, 2, 2, 2, 1, 1, 1] rfl)
 ·skip
  obtain rfl : i = X.M.length := by omega
  rw [List.take_length] at hst
  refine vc_exit ?_
  refine vc_thenExit ?_
  refine vc_thenExit ?_
  refine vc_inExit ?_
  refine vc_then ?_
  refine vc_seq ?_
  refine vc_region ?_
  refine vp ?_
  refine vp ?_
  refine vc_nil ?_
  refine vc_then ?_
  refine vc_ret ?_
  exact vc_end1 Tryz.results26 rfl _ (ent_pick [0, 0, 0, 0, 0, 0, 0, 1] rfl) ⟨hh, rfl, by rw [hst]; rfl⟩
theorem rset0 {b : Nat} {X : RmX} {I : RmI} (rel : RmRel X I) (ok : X.ok) : Does Tryz.prog 38 [.pointer (some ⟨b, 0, none⟩)] (RmO b X I) (fun v l => ∃ g, v = .agg #[g.v, .int .i64 X.ring, .int .i64 X.quota, .int .i64 X.most] ∧ l = RmO b X I ++ [Sl eU64 g X.label]) := by
 refine spec_of Tryz.func38 rfl Tryz.ntmps38 Tryz.results38 _ (by simp) fun ι F => ?_
 refine vc_seq ?_
 refine vc_region ?_
 refine vc_alloc [.slice none 0 0, .int .i64 0, .int .i64 0, .int .i64 0] ze_24 rfl rfl (fun b2 => ?_)
 refine vc_nil ?_
 refine vc_then ?_
 refine vc_seq ?_
 refine vc_seq ?_
 refine vc_region ?_
 refine vp ?_
 refine vc_y (y_eqNil ep_28 rfl rfl) rfl ?_
 refine vc_nil ?_
 refine vc_then ?_
 refine vc_condF rfl ?_
 refine vc_skip ?_
 refine vc_then ?_
 refine vc_seq ?_
 refine vc_region ?_
 refine vp ?_
 refine vp ?_
 refine vc_y (y_fieldP fl_132_0 0 rfl rfl) rfl ?_
 refine vc_y (y_loadA 1 rfl (cs := [_, _, _, _]) ag_24 rfl (Pts.visA rfl)) rfl ?_
 refine vc_alloc [.slice none 0 0, .int .i64 0, .int .i64 0, .int .i64 0] ze_24 rfl rfl (fun b3 => ?_)
 refine vc_storeP 0 rfl [_, _, _, _] [_, _, _, _] rfl rfl rfl sz_24 rfl rfl rfl ?_
 refine vc_nil ?_
 refine vc_then ?_
 refine vc_seq ?_
 refine vc_region ?_
 refine vc_y (y_fieldP fl_24_0 0 rfl rfl) rfl ?_
 refine vc_y (y_load1 0 rfl one_22 rfl (Pts.vis rfl)) rfl ?_
 refine vc_callv ca_101 (us := []) (vs := []) rfl [_] rfl [3] rfl (cloneU_spec Sl.vis (Nat.le_trans (labelRight_len ok.lab) (by decide))) rfl ?_
 rintro _ _ ⟨g, rfl, rfl⟩
 refine vc_y (y_fieldP fl_24_0 0 rfl rfl) rfl ?_
 refine vc_storeP 2 rfl [_] [_, _, _, _] rfl rfl rfl sz_22 rfl rfl rfl ?_
 refine vc_nil ?_
 refine vc_then ?_
 refine vc_seq ?_
 refine vc_region ?_
 refine vc_y (y_loadA 2 rfl (cs := [_, _, _, _]) ag_24 rfl (Pts.visA rfl)) rfl ?_
 refine vc_storeP 3 rfl [_, _, _, _] [_, _, _, _] rfl rfl rfl sz_24 rfl rfl rfl ?_
 refine vc_nil ?_
 refine vc_then ?_
 refine vc_ret ?_
 exact vc_endR Tryz.results38 (resL_cons (res_a 3 rfl (cs := [_, _, _, _]) ag_24 rfl (Pts.visA rfl)) (resL_nil)) _ (ent_pick [4, 1, 3, 3, 3, 3, 3, 0] rfl) ⟨g, rfl, rfl⟩
section
variable {b : Nat} {X : RmX}
theorem room_sweep (ok : X.ok) : Does Tryz.prog 17 [.pointer (some ⟨b, 0, none⟩)] [RoomC b X] (fun v l => v = .int .i64 (versM X.M - versM (sweepM X.M X.R.floor)) ∧ l = [RoomC b (swX X)]) :=
 room_does (r := []) fun I rel => by rw [List.append_nil]; exact rsweep0 rel ok
theorem room_entries (ok : X.ok) : Does Tryz.prog 26 [.pointer (some ⟨b, 0, none⟩)] [RoomC b X] (fun v l => ∃ h', v = h'.v ∧ l = [RoomC b X, Sl eEn h' (entM X.M X.R.seq)]) :=
 room_does (r := []) fun I rel => by rw [List.append_nil]; exact Does.fin (rent0 rel ok) fun v l ⟨h', e, h⟩ => ⟨_, h ▸ ent_RmO rel (r := [Sl eEn h' (entM X.M X.R.seq)]), h', e, rfl⟩
theorem room_setting (ok : X.ok) : Does Tryz.prog 38 [.pointer (some ⟨b, 0, none⟩)] [RoomC b X] (fun v l => ∃ g, v = .agg #[g.v, .int .i64 X.ring, .int .i64 X.quota, .int .i64 X.most] ∧ l = [RoomC b X, Sl eU64 g X.label]) :=
 room_does (r := []) fun I rel => by rw [List.append_nil]; exact Does.fin (rset0 rel ok) fun v l ⟨g, e, h⟩ => ⟨_, h ▸ ent_RmO rel (r := [Sl eU64 g X.label]), g, e, rfl⟩
end
end Go.Proofs.YtcpbibdbahfgaaaGreat
/-
 Slices of noughts that are made.
-/
set_option linter.unusedVariables false
set_option linter.unusedSimpArgs false
set_option autoImplicit false
namespace Go.Eng
section
variable {P : Program} {ι : Io} {F : HP} {n : Nat} {ρ : List (Nat × Value)} {l : List HP} {K : Act → World → Prop} {Q : Exit → Act → World → Prop} {all : Array Oper} {rest : List Oper}
variable {d : Nat} {ty : TypeId} {pos : String} {aft : Array Edge} {dst : Option Nat} {gd : Option (Nat × Bool)}
theorem flat_repz {α : Type} {E : Enc α} {z : α} {zv : Value} (hz : E.f z = [zv]) : ∀ m : Nat, flat E (List.replicate m z) = List.replicate m zv
 | 0 => rfl
 | m + 1 => by rw [List.replicate_succ, flat_cons, hz, flat_repz hz m]; rfl
/-- A new slice of noughts, of one cell each. -/
theorem vc_makeSlice {α : Type} {E : Enc α} {t : TypeId} {x y : Operand} (m : Nat) {z : α} (zv : Value) (nb : Nat) (ht : P.underlying t = some (.slice E.ty)) (hinf : (P.info? E.ty).map (fun i => (i.zero, i.size, i.bytes)) = some (some zv, 1, nb)) (hzc : zv.cells = #[zv]) (hz : E.f z = [zv])
 (hx : ev ρ x = some (.int .i64 (m : Int))) (hy : ev ρ y = some (.int .i64 (m : Int))) (hb : m ≤ 16777216 ∧ nb * m ≤ 281474976710656) (hd : Nat.blt d n = true)
 (h : ∀ h : SH, VC ι F n (wpList P all Q rest) ((d, h.v) :: ρ) (Sl E h (List.replicate m z) :: l)) : VC ι F n (wpList P all Q (⟨some d, .makeSlice t x y, ty, pos, aft, none⟩ :: rest)) ρ l := fun a w he hw =>
 wpList_plain rfl fun K hK => by
  obtain ⟨i, hi, hzi, hsi, hnb⟩ : ∃ i, P.info? E.ty = some i ∧ i.zero = some zv ∧ i.size = 1 ∧ i.bytes = nb := by
   cases hq : P.info? E.ty with
   | none => rw [hq] at hinf; cases hinf
   | some i => rw [hq] at hinf; simp at hinf; exact ⟨i, rfl, hinf⟩
  subst hnb
  have hm := run_makeSlice (P := P) (w := w) t E.ty i zv ht hi hzi .i64 .i64 (m : Int) (m : Int) (by omega) (by omega) (by rw [hsi]; omega) (by have := hb.2; omega) (by omega)
  have hc : madeCells zv.cells ((m : Int).toNat * i.size) = (flat E (List.replicate m z)).toArray := by
   rw [flat_repz hz, hsi, hzc]
   apply Array.ext'
   simp [madeCells, Nat.mod_one, List.map_const']
  have hr : (execOp a.eval ⟨some d, .makeSlice t x y, ty, pos, aft, none⟩).run P w = .ok (.value (.slice (some ⟨w.heap.size, 0, none⟩) m m)) { w with heap := w.heap.push (.cells (flat E (List.replicate m z)).toArray E.ty (0, 0)) } := by
   simp only [execOp, he.eval hx, he.eval hy, Sem.run_bind, hm, Result.andThen_ok, hc]; rfl
  unfold Oper.wp
  rw [hr]
  refine hK _ _ (h ⟨some ⟨w.heap.size, 0, none⟩, m, m⟩ _ _ (he.put d hd _) (((hw.new (flat E (List.replicate m z)) E.ty).ent Ent.assoc').ent (Ent.sep (Ent.sep ?_ Ent.rfl) Ent.rfl)))
  have := Sl.mk1 (E := E) w.heap.size (List.replicate m z) m [] (by simp) (by simp)
  simpa using this
end
end Go.Eng
/-
 The reference's rooms in memory, and what its functions come to.
-/
set_option linter.unusedVariables false
set_option autoImplicit false
namespace Go.Proofs.YtcpbibdbahfgaaaGreat
open Go.Eng
/-- A key, the slice of its chain, its chain. -/
abbrev On := ByteArray × SH × List Ver
def eOne : Enc On := ⟨152, 2, fun p => [.string p.1, p.2.1.v], fun _ => rfl, fun _ c h => by simp at h; rcases h with rfl | rfl <;> rfl, by decide⟩
def eU8 : Enc Int := ⟨5, 1, fun n => [.int .u8 n], fun _ => rfl, fun _ c h => by simp at h; subst h; rfl, by decide⟩
def mpT (T : List On) : Mp := T.map fun p => (p.1, p.2.2)
theorem mpT_append (T U : List On) : mpT (T ++ U) = mpT T ++ mpT U := by simp [mpT]
theorem mpT_length (T : List On) : (mpT T).length = T.length := by simp [mpT]
theorem mpT_drop (T : List On) (i : Nat) : mpT (T.drop i) = (mpT T).drop i := by simp [mpT, List.map_drop]
theorem mpT_take (T : List On) (i : Nat) : mpT (T.take i) = (mpT T).take i := by simp [mpT, List.map_take]
def RoM (T : List On) : HP :=
 ⟨fun r x => ∀ p ∈ T, (RoSl eVer p.2.1 p.2.2).P r x, fun hr hx hp p hq => (RoSl eVer p.2.1 p.2.2).mono hr hx (hp p hq)⟩
theorem RoM.get {T : List On} {p : On} (h : p ∈ T) : Ent (RoM T) (RoSl eVer p.2.1 p.2.2) := fun r x hp => hp p h
theorem RoM.vis {T : List On} {p : On} (h : p ∈ T) : Vis (RoM T) (Rd eVer p.2.1 p.2.2) := RoSl.vis.ent (RoM.get h)
theorem RoM.nil : Ent emp (RoM []) := fun r x _ p hp => by cases hp
theorem RoM.sub {T U : List On} (h : ∀ p ∈ U, p ∈ T) : Ent (RoM T) (RoM U) := fun r x hp p hq => hp p (h p hq)
theorem RoM.app {T U : List On} : Ent (sep (RoM T) (RoM U)) (RoM (T ++ U)) := by
 rintro r x ⟨x1, x2, hj, hp, hq⟩ p h
 rcases List.mem_append.1 h with h | h
 ·exact (RoSl eVer p.2.1 p.2.2).mono Sub.rfl hj.sub1 (hp p h)
 ·exact (RoSl eVer p.2.1 p.2.2).mono Sub.rfl hj.sub2 (hq p h)
theorem RoM.one {k : ByteArray} {h : SH} {c : List Ver} : Ent (RoSl eVer h c) (RoM [(k, h, c)]) := fun r x hp p hq => by
 simp at hq; subst hq; exact hp
theorem RoM.dup {T : List On} : Ent (RoM T) (sep (RoM T) (RoM T)) := fun r x hp =>
 ⟨x, fun _ => none, fun _ => .inl ⟨rfl, rfl⟩, hp, fun p hq => by
  obtain ⟨h1, h2⟩ := hp p hq
  exact ⟨h1, h2⟩⟩
/-- What is put comes behind what there is; what stays is seen still. -/
theorem RoM.keep {T U : List On} {p : On} (h : p ∈ T) {r : List HP} : Ent (seps (RoM U :: RoM T :: r)) (seps (RoM (U ++ [p]) :: RoM T :: r)) :=
 (Ent.sep Ent.rfl ((Ent.sep RoM.dup Ent.rfl).trans Ent.assoc)).trans (Ent.assoc'.trans (Ent.sep ((Ent.sep Ent.rfl (RoM.sub (U := [p]) (fun q hq => by simp at hq; rw [hq]; exact h))).trans RoM.app) Ent.rfl))
theorem RoM.new {U : List On} {k : ByteArray} {h : SH} {c : List Ver} {r : List HP} : Ent (seps (RoSl eVer h c :: RoM U :: r)) (seps (RoM (U ++ [(k, h, c)]) :: r)) :=
 Ent.assoc'.trans (Ent.sep (((Ent.comm).trans (Ent.sep Ent.rfl RoM.one)).trans RoM.app) Ent.rfl)
/-! ### Plain -/
def atGo (s : Int) : List Ver → Ver × Bool → Ver × Bool
 | [], st => st
 | v :: r, st => atGo s r (if v.seq ≤ s then (v, !v.gone) else st)
theorem atGo_eq (s : Int) : ∀ {l : List Ver} {last : Int} (h : chainFrom last l = true) (st : Ver × Bool), atGo s l st = if bhd l s = 0 then st else match l[bhd l s - 1]? with | some v => (v, !v.gone) | none => st
 | [], _, _, st => rfl
 | v :: r, last, h, st => by
  simp only [chainFrom, Bool.and_eq_true, decide_eq_true_eq] at h
  have ih := atGo_eq s h.2.2
  simp only [atGo, bhd]
  rw [ih]
  by_cases h1 : v.seq ≤ s
  ·simp only [if_pos h1]
   by_cases h2 : bhd r s = 0
   ·simp [h2]
   ·rw [if_neg h2, if_neg (by omega)]
    have hb := bhd_le r s
    have e1 : (v :: r)[bhd r s + 1 - 1]? = r[bhd r s - 1]? := by
     rw [show bhd r s + 1 - 1 = (bhd r s - 1) + 1 by omega, List.getElem?_cons_succ]
    rw [e1, List.getElem?_eq_getElem (by omega)]
  ·simp only [if_neg h1]
   have : bhd r s = 0 := by
    cases r with
    | nil => rfl
    | cons x r =>
     have := (chainFrom_mem h.2.2 x (by simp)).1
     simp only [bhd]
     rw [if_neg (by omega)]
   simp [this]
/-- What the reference's At comes to. -/
theorem atGo_ver {l : List Ver} (h : chainRight l = true) (s : Int) : (if (atGo s l (ver0, false)).2 then some (atGo s l (ver0, false)).1 else none) = verAt l s := by
 rw [atGo_eq s h]
 unfold verAt
 by_cases hz : bhd l s = 0
 ·rw [if_pos hz, h]
  simp [hz]
  split <;> simp_all
 ·have hb := bhd_le l s
  have h1 : 1 ≤ s := by
   cases l with
   | nil => exact absurd rfl hz
   | cons v r =>
    simp only [bhd] at hz
    split at hz
    ·have := (chainFrom_mem h v (by simp)).1; omega
    ·exact absurd rfl hz
  rw [if_neg hz, List.getElem?_eq_getElem (by omega), h]
  simp only [Bool.true_and, decide_eq_true h1, if_true, hz, decide_false, Bool.false_or]
  cases (l[bhd l s - 1]'(by omega)).gone <;> rfl
/-- What the reference's Sweep leaves ahead of its last look. -/
def swGo (f : Int) : List Ver → List Ver
 | [] => []
 | v :: r => (match r with | w :: _ => if w.seq ≤ f then [] else [v] | [] => [v]) ++ swGo f r
theorem swGo_eq (f : Int) : ∀ {l : List Ver} {last : Int} (h : chainFrom last l = true), swGo f l = l.drop (bhd l f - 1)
 | [], _, _ => rfl
 | [v], _, _ => by
  simp only [swGo, bhd]
  split <;> rfl
 | v :: w :: r, last, h => by
  simp only [chainFrom, Bool.and_eq_true, decide_eq_true_eq] at h
  have h2 : chainFrom v.seq (w :: r) = true := by simp only [chainFrom, Bool.and_eq_true, decide_eq_true_eq]; exact h.2.2
  have ih := swGo_eq f h2
  have e : swGo f (v :: w :: r) = (if w.seq ≤ f then [] else [v]) ++ swGo f (w :: r) := rfl
  rw [e, ih]
  by_cases h1 : w.seq ≤ f
  ·rw [if_pos h1]
   have hv : v.seq ≤ f := by omega
   simp only [bhd, if_pos h1, if_pos hv]
   rfl
  ·rw [if_neg h1]
   have hb : bhd (w :: r) f = 0 := by simp only [bhd]; rw [if_neg h1]
   have hb2 : bhd (v :: w :: r) f - 1 = 0 := by
    simp only [bhd] at hb ⊢
    rw [hb]; split <;> rfl
   rw [hb, hb2]; rfl
def swEnd (f : Int) (l : List Ver) : List Ver := match l with
 | v :: r => if v.gone && decide (v.seq ≤ f) then r else v :: r
 | [] => []
theorem swEnd_eq {l : List Ver} (h : chainRight l = true) (f : Int) : swEnd f (swGo f l) = verSweep l f := by
 rw [swGo_eq f h]
 unfold verSweep
 rw [if_pos h]
 by_cases hz : bhd l f = 0
 ·have hv : verOld l f = 0 := by
   unfold verOld
   simp only [hz]
   split
   ·split
    ·simp
    ·rfl
   ·rfl
  rw [hv, hz]
  cases l with
  | nil => rfl
  | cons v r =>
   simp only [bhd] at hz
   have : ¬ v.seq ≤ f := fun h0 => by rw [if_pos h0] at hz; cases hz
   simp [swEnd, this]
 ·have hb := bhd_le l f
  have hlt : bhd l f - 1 < l.length := by omega
  have h1 : 1 ≤ f := by
   cases l with
   | nil => exact absurd rfl hz
   | cons v r =>
    simp only [bhd] at hz
    split at hz
    ·have := (chainFrom_mem h v (by simp)).1; omega
    ·exact absurd rfl hz
  have hle : (l[bhd l f - 1]).seq ≤ f := by
   have : ∀ (l : List Ver) (i : Nat) (hi : i < l.length), i < bhd l f → l[i].seq ≤ f := by
    intro l
    induction l with
    | nil => intro i hi; simp at hi
    | cons v r ih =>
     intro i hi hb
     simp only [bhd] at hb
     split at hb
     ·cases i with
      | zero => assumption
      | succ i => exact ih i (by simpa using hi) (by omega)
     ·omega
   exact this l _ hlt (by omega)
  unfold verOld
  rw [h, List.getElem?_eq_getElem hlt, List.drop_eq_getElem_cons hlt]
  simp only [Bool.true_and, decide_eq_true h1, if_true, swEnd, decide_eq_true hle, Bool.and_true, decide_eq_true (show 0 < bhd l f by omega)]
  cases hg : (l[bhd l f - 1]).gone with
  | true => simp only [if_true, Bool.not_true, Bool.false_eq_true, if_false]; rw [show bhd l f - 1 + 1 = bhd l f by omega]
  | false => simp only [Bool.false_eq_true, if_false, Bool.not_false, if_true]; rw [List.drop_eq_getElem_cons hlt]
/-- What the reference's put comes to. -/
def putGo (key : ByteArray) (v : Ver) : Bool → Mp → Mp
 | p, [] => if p then [] else [(key, [v])]
 | p, (k, c) :: r => if sEq k key then (k, c ++ [v]) :: putGo key v true r else if !p && sLt key k then (key, [v]) :: (k, c) :: putGo key v true r else (k, c) :: putGo key v p r
theorem putGo_true {key : ByteArray} {v : Ver} : ∀ {M : Mp}, (∀ p ∈ M, p.1 ≠ key) → putGo key v true M = M
 | [], _ => rfl
 | (k, c) :: r, h => by
  have h1 : sEq k key = false := by
   cases h0 : sEq k key with
   | false => rfl
   | true => exact absurd (sEq_iff.1 h0) (h (k, c) (by simp))
  simp only [putGo, h1, Bool.false_eq_true, if_false, Bool.not_true, Bool.false_and]
  rw [putGo_true fun p hp => h p (by simp [hp])]
theorem mPut_lt {k key : ByteArray} {c : List Ver} {r : Mp} {v : Ver} (h : sLt k key = true) : mPut ((k, c) :: r) key v = (k, c) :: mPut r key v := by
 have h1 : lb (ks ((k, c) :: r)) key = lb (ks r) key + 1 := by simp [ks, lb, h]
 have h2 : fnd (ks ((k, c) :: r)) key = fnd (ks r) key := by unfold fnd; rw [h1]; rfl
 have h3 : chainM ((k, c) :: r) key = chainM r key := by unfold chainM Eng.look; rw [h1, h2]; rfl
 unfold mPut put1 ins
 rw [h1, h2, h3]
 cases fnd (ks r) key <;> rfl
theorem putGo_eq {key : ByteArray} {v : Ver} : ∀ {M : Mp}, Rise (ks M) → putGo key v false M = mPut M key v
 | [], _ => rfl
 | (k, c) :: r, hr => by
  have hr' : Rise (ks r) := hr.2
  rcases sLt_total k key with h | h | h
  ·have h1 : sEq k key = false := by
    cases h0 : sEq k key with
    | false => rfl
    | true => exact absurd (sEq_iff.1 h0) (sLt_ne h)
   rw [mPut_lt h]
   simp only [putGo, h1, sLt_asymm h, Bool.false_eq_true, if_false, Bool.not_false, Bool.true_and]
   rw [putGo_eq hr']
  ·subst h
   have hl : lb (ks ((k, c) :: r)) k = 0 := by simp [ks, lb, sLt_irrefl]
   have hf : fnd (ks ((k, c) :: r)) k = true := by unfold fnd; rw [hl]; simp [ks, sEq_self]
   have hc : chainM ((k, c) :: r) k = c := by unfold chainM Eng.look; rw [hl, hf]; rfl
   have e : mPut ((k, c) :: r) k v = (k, c ++ [v]) :: r := by unfold mPut put1; rw [hf, hl, hc]; rfl
   rw [e]
   simp only [putGo, sEq_self, if_true]
   rw [putGo_true fun p hp => ?_]
   exact fun e => by have := hr.1 p.1 (List.mem_map.2 ⟨p, hp, rfl⟩); rw [e, sLt_irrefl] at this; cases this
  ·have h1 : sEq k key = false := by
    cases h0 : sEq k key with
    | false => rfl
    | true => exact absurd (sEq_iff.1 h0).symm (sLt_ne h)
   have hl : lb (ks ((k, c) :: r)) key = 0 := by simp [ks, lb, sLt_asymm h]
   have hf : fnd (ks ((k, c) :: r)) key = false := by unfold fnd; rw [hl]; simp [ks, h1]
   have e : mPut ((k, c) :: r) key v = (key, [v]) :: (k, c) :: r := by unfold mPut ins; rw [hf, hl]; rfl
   rw [e]
   simp only [putGo, h1, h, Bool.false_eq_true, if_false, Bool.not_false, Bool.true_and, if_true]
   rw [putGo_true fun p hp => ?_]
   exact fun e => by have := hr.1 p.1 (List.mem_map.2 ⟨p, hp, rfl⟩); rw [e] at this; rw [sLt_asymm h] at this; cases this
end Go.Proofs.YtcpbibdbahfgaaaGreat
