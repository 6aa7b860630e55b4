/-
 Cursors: rows told.
-/
import Derived.Test.YtcpbibdbahfgaaaGreatMerge1
set_option linter.unusedVariables false
set_option linter.unusedSimpArgs false
set_option autoImplicit false
set_option maxHeartbeats 4000000
namespace Go.Proofs.YtcpbibdbahfgaaaGreat
open Go.Eng
namespace FMerge2
theorem ze_158 : (Tryz.prog.info? 158).map (·.zero) = some (some (.agg #[.int .i64 0, .string ⟨#[]⟩, .bool false, .string ⟨#[]⟩, .int .u64 0])) := by kernel_rfl
theorem ag_82 : TyAgg Tryz.prog 82 3 := ⟨⟨_, Tryz.underlying82, rfl⟩, by kernel_rfl⟩
theorem fl_82_2 : Fld Tryz.prog 82 2 2 := ⟨_, _, 0, Tryz.underlying82, rfl, rfl, by kernel_rfl⟩
theorem one_3 : TyOne Tryz.prog 3 := ⟨⟨_, Tryz.underlying3, rfl⟩, by kernel_rfl⟩
theorem fl_163_3 : Fld Tryz.prog 163 3 5 := ⟨_, _, 0, Tryz.underlying163, rfl, rfl, by kernel_rfl⟩
theorem ca_177 : Callable Tryz.prog 177 := ⟨_, _, Tryz.func177, rfl, rfl⟩
theorem ca_201 : Callable Tryz.prog 201 := ⟨_, _, Tryz.func201, rfl, rfl⟩
theorem ze_45 : (Tryz.prog.info? 45).map (·.zero) = some (some (.agg #[.bool false, .string ⟨#[]⟩, .int .u64 0])) := by kernel_rfl
theorem sz_45 : (Tryz.prog.info? 45).map (·.size) = some 3 := by kernel_rfl
theorem bu_158_n   (w : World) : (Instr.build 158 #[]).run Tryz.prog w = .ok (.agg #[.int .i64 0, .string ⟨#[]⟩, .bool false, .string ⟨#[]⟩, .int .u64 0]) w := by
 have hz := @ze_158
 exact Go.Eng.run_build (pl := [(0, 1), (1, 1), (2, 3)]) hz Tryz.underlying158 (by kernel_rfl) rfl (by simp [Instr.fill, cells_agg]) w
theorem sz_158 : (Tryz.prog.info? 158).map (·.size) = some 5 := by kernel_rfl
theorem ag_158 : TyAgg Tryz.prog 158 5 := ⟨⟨_, Tryz.underlying158, rfl⟩, by kernel_rfl⟩
theorem fl_163_1 : Fld Tryz.prog 163 1 1 := ⟨_, _, 2, Tryz.underlying163, rfl, rfl, by kernel_rfl⟩
theorem fl_74_1 : Fld Tryz.prog 74 1 1 := ⟨_, _, 0, Tryz.underlying74, rfl, rfl, by kernel_rfl⟩
theorem one_9 : TyOne Tryz.prog 9 := ⟨⟨_, Tryz.underlying9, rfl⟩, by kernel_rfl⟩
theorem ag_45 : TyAgg Tryz.prog 45 3 := ⟨⟨_, Tryz.underlying45, rfl⟩, by kernel_rfl⟩
theorem bu_158_0_1_2 (v0 : Value) (v1 : Value) (v2_0 v2_1 v2_2 : Value) (h0 : v0.cells = #[v0]) (h1 : v1.cells = #[v1]) (w : World) : (Instr.build 158 #[(0, v0), (1, v1), (2, .agg #[v2_0, v2_1, v2_2])]).run Tryz.prog w = .ok (.agg #[v0, v1, v2_0, v2_1, v2_2]) w := by
 have hz := @ze_158
 exact Go.Eng.run_build (pl := [(0, 1), (1, 1), (2, 3)]) hz Tryz.underlying158 (by kernel_rfl) rfl (by simp [Instr.fill, h0, h1, cells_agg]) w
theorem ca_176 : Callable Tryz.prog 176 := ⟨_, _, Tryz.func176, rfl, rfl⟩
theorem fl_163_0 : Fld Tryz.prog 163 0 0 := ⟨_, _, 0, Tryz.underlying163, rfl, rfl, by kernel_rfl⟩
theorem one_80 : TyOne Tryz.prog 80 := ⟨⟨_, Tryz.underlying80, rfl⟩, by kernel_rfl⟩
theorem sl_80 : TySl Tryz.prog 80 82 3 := ⟨Tryz.underlying80, by kernel_rfl⟩
theorem ze_82 : (Tryz.prog.info? 82).map (·.zero) = some (some (.agg #[.pointer none, .int .i64 0, .int .i64 0])) := by kernel_rfl
theorem sz_82 : (Tryz.prog.info? 82).map (·.size) = some 3 := by kernel_rfl
theorem ca_141 : Callable Tryz.prog 141 := ⟨_, _, Tryz.func141, rfl, rfl⟩
theorem ca_142 : Callable Tryz.prog 142 := ⟨_, _, Tryz.func142, rfl, rfl⟩
theorem fl_158_1 : Fld Tryz.prog 158 1 1 := ⟨_, _, 0, Tryz.underlying158, rfl, rfl, by kernel_rfl⟩
theorem fl_158_0 : Fld Tryz.prog 158 0 0 := ⟨_, _, 0, Tryz.underlying158, rfl, rfl, by kernel_rfl⟩
theorem ca_144 : Callable Tryz.prog 144 := ⟨_, _, Tryz.func144, rfl, rfl⟩
theorem ca_145 : Callable Tryz.prog 145 := ⟨_, _, Tryz.func145, rfl, rfl⟩
theorem sz_3 : (Tryz.prog.info? 3).map (·.size) = some 1 := by kernel_rfl
theorem ze_3 : (Tryz.prog.info? 3).map (·.zero) = some (some (.int .i64 0)) := by kernel_rfl
theorem bs_72_2 (v0 : Value) (v1 : Value) (h0 : v0.cells = #[v0]) (h1 : v1.cells = #[v1]) (w : World) : (Instr.buildSlice 72 2 #[(0, v0), (1, v1)]).run Tryz.prog w = .ok (.slice (some ⟨w.heap.size, 0, none⟩) 2 2) { w with heap := w.heap.push (.cells #[v0, v1] 3 (0, 0)) } :=
 Go.Eng.run_buildSlice Tryz.underlying72 sz_3 ze_3 (by decide) (by rw [show Array.range (2 * 1) = #[0, 1] from by decide]; simp [Instr.fill, cells_agg, h0, h1]) w
theorem ca_143 : Callable Tryz.prog 143 := ⟨_, _, Tryz.func143, rfl, rfl⟩
theorem ep_76 : Tryz.prog.underlying 76 = some (.pointer (Tryz.prog.pointee 76)) := by kernel_rfl
theorem fl_163_6 : Fld Tryz.prog 163 6 12 := ⟨_, _, 0, Tryz.underlying163, rfl, rfl, by kernel_rfl⟩
theorem one_4 : TyOne Tryz.prog 4 := ⟨⟨_, Tryz.underlying4, rfl⟩, by kernel_rfl⟩
theorem ca_105 : Callable Tryz.prog 105 := ⟨_, _, Tryz.func105, rfl, rfl⟩
theorem bs_77_1 (v0_0 v0_1 v0_2 v0_3 v0_4 : Value)  (w : World) : (Instr.buildSlice 77 1 #[(0, .agg #[v0_0, v0_1, v0_2, v0_3, v0_4])]).run Tryz.prog w = .ok (.slice (some ⟨w.heap.size, 0, none⟩) 1 1) { w with heap := w.heap.push (.cells #[v0_0, v0_1, v0_2, v0_3, v0_4] 158 (0, 0)) } :=
 Go.Eng.run_buildSlice Tryz.underlying77 sz_158 ze_158 (by decide) (by rw [show Array.range (1 * 5) = #[0, 1, 2, 3, 4] from by decide]; simp [Instr.fill, cells_agg]) w
theorem el_77_eRow : TyEl Tryz.prog 77 eRow 56 := ⟨Tryz.underlying77, .agg #[.int .i64 0, .string ⟨#[]⟩, .bool false, .string ⟨#[]⟩, .int .u64 0], by kernel_rfl, rfl⟩
theorem fl_163_4 : Fld Tryz.prog 163 4 6 := ⟨_, _, 4, Tryz.underlying163, rfl, rfl, by kernel_rfl⟩
theorem fl_163_5 : Fld Tryz.prog 163 5 11 := ⟨_, _, 0, Tryz.underlying163, rfl, rfl, by kernel_rfl⟩
theorem fl_74_2 : Fld Tryz.prog 74 2 2 := ⟨_, _, 0, Tryz.underlying74, rfl, rfl, by kernel_rfl⟩
theorem sz_4 : (Tryz.prog.info? 4).map (·.size) = some 1 := by kernel_rfl
end FMerge2
open FMerge2
theorem mu_step {C : Cu} {s : SrcV} {own : Qw} {mu : ByteArray → Bool → Nat} {q : Qr} (hM : OwnMu own mu) {k : ByteArray} {ab : Bool} (h1 : (findC C s own q k ab).ok = true) (h2 : (findC C s own q k ab).is = false) : mu (findC C s own q k ab).key true < mu k ab := by
 unfold findC at h1 h2 ⊢
 by_cases hp : s.place = C.place
 ·simp only [hp, if_true] at h1 h2 ⊢
  unfold fdOver at h1 h2 ⊢
  split
  ·rename_i h3; rw [if_pos h3] at h2; cases h2
  ·rename_i h3
   rw [if_neg h3] at h1 h2
   cases ho : own k ab with
   | none => rw [ho] at h1; cases h1
   | some w => exact hM.ok k ab w ho
 ·simp only [hp, if_false] at h2
  cases h2
def muD (D : Cu) : Nat := match D.done with
 | true => 0
 | false => (64 - D.told).toNat + 1
theorem muD_tell {D : Cu} {x : RowT} (h : D.done = false) (h2 : D.told < D.limit) (h3 : D.limit ≤ 64) : muD (tellC D x) < muD D := by
 unfold muD
 rw [h]
 cases hq : (tellC D x).done with
 | true => simp only; omega
 | false =>
  simp only [tellC, decide_eq_false_iff_not] at hq ⊢
  omega
theorem muD_end {D : Cu} (h : D.done = false) : muD (endC D) < muD D := by
 unfold muD
 rw [h]
 simp only [endC]; omega
theorem less_iff (x y : RowT) : ((if cmpS x.key y.key ≠ 0 then cmpS x.key y.key else (if x.room < y.room then -1 else if y.room < x.room then 1 else 0)) < (0 : Int)) ↔ lessR x y = true := by
 unfold lessR cmpS
 cases h1 : sLt x.key y.key with
 | true => simp
 | false =>
  cases h2 : sEq x.key y.key with
  | true =>
   simp
   split
   ·simp [*]
   ·split <;> simp <;> omega
  | false => simp
theorem rowsC_at {C : Cu} {own : Qw} {mu : ByteArray → Bool → Nat} {Q : SrcV → Qr} {i : Nat} (h : i < C.srcs.length) (best : Option RowT) : rowsC C own mu Q (C.srcs.drop i) best = rowsC C own mu Q (C.srcs.drop (i + 1)) (rowStep best (seekC C C.srcs[i] own mu (Q C.srcs[i]) (fromC C C.srcs[i]).1 (fromC C C.srcs[i]).2)) := by
 rw [List.drop_eq_getElem_cons h]; rfl
theorem seek_spec {b : Nat} {C : Cu} {hl : SH} {V : HP} {own : Qw} (hO : OwnOk V C.own own) {W : HP} {s : SrcV} {q : Qr} (hS : SrcOk W s q) {mu : ByteArray → Bool → Nat} (hM : OwnMu own mu) (key : ByteArray) (ab : Bool) : Does Tryz.prog 142 [.pointer (some ⟨b, 0, none⟩), .agg #[ptrV s.room, .int .i64 s.seq, .int .i64 s.place], .string key, .bool ab] [CuP b C hl, V, W] (fun v l => v = rowTupR (seekC C s own mu q key ab) ∧ l = [CuP b C hl, V, W]) := by
 refine spec_of Tryz.func142 rfl Tryz.ntmps142 Tryz.results142 _ (by simp) fun ι F => ?_
 refine vc_seq ?_
 refine vc_region ?_
 refine vc_box [_, _, _] rfl rfl rfl (fun b5 => ?_)
 refine vc_alloc [.int .i64 0, .string ⟨#[]⟩, .bool false, .string ⟨#[]⟩, .int .u64 0] ze_158 rfl rfl (fun b8 => ?_)
 refine vp ?_
 refine vc_nil ?_
 refine vc_then ?_
 refine vc_seq ?_
 refine vc_region ?_
 refine vc_y (y_loadA 1 rfl (cs := [_, _, _]) ag_82 rfl (Pts.visA rfl)) rfl ?_
 refine vc_y (y_makeFunc [_] [] rfl rfl) rfl ?_
 refine vp ?_
 refine vc_nil ?_
 refine vc_then ?_
 refine vc_seq ?_
 refine vc_seq ?_
 refine vc_draw (by kernel_rfl) _ none [1, 1] rfl ?_
 refine tp 0 rfl (by exact y_fieldP fl_82_2 2 rfl rfl) ?_
 refine tk 1 rfl (by exact y_load1 0 rfl one_3 rfl (Pts.vis rfl)) ?_
 refine tpp 2 ?_
 refine tpp 3 ?_
 refine tp 4 rfl (by exact y_fieldP fl_163_3 5 rfl rfl) ?_
 refine tk 5 rfl (by exact y_load1 1 rfl one_3 rfl (Pts.vis rfl)) ?_
 refine tpp 6 ?_
 refine va_done (by kernel_rfl) ?_
 refine vc_then ?_
 first | refine vc_condP rfl (fun c23 => ?_) (fun c23 => ?_) | refine vc_condN rfl (fun c23 => ?_) (fun c23 => ?_) | refine vc_cond rfl (fun c23 => ?_) (fun c23 => ?_)
 ·skip
  refine vc_region ?_
  refine vp ?_
  refine vc_y (y_makeFunc [_] [] rfl rfl) rfl ?_
  refine vc_y (y_loadA 1 rfl (cs := [_, _, _]) ag_82 rfl (Pts.visA rfl)) rfl ?_
  refine vc_y (y_makeFunc [_] [] rfl rfl) rfl ?_
  refine vc_callv ca_177 (us := []) (vs := []) rfl [_, _] rfl [] rfl (over_spec b s) rfl ?_
  rintro _ _ ⟨b2, b3, rfl, rfl⟩
  refine vp ?_
  refine vc_nil ?_
  refine vc_then ?_
  refine vc_block ?_
  refine vc_loop (α := Nat × ByteArray × Bool) (fun xq_ => match xq_ with | (f, k, a) => [(0, .pointer (some ⟨b, 0, none⟩)), (2, .string k), (3, .bool a), (5, .pointer (some ⟨b5, 0, none⟩)), (8, .pointer (some ⟨b8, 0, none⟩)), (10, .func (.func 201) #[] #[.pointer (some ⟨b2, 0, none⟩), .pointer (some ⟨b3, 0, none⟩)])]) (fun xq_ => match xq_ with | (f, k, a) => [Pts b5 [ptrV s.room, .int .i64 s.seq, .int .i64 s.place] 82, Pts b8 [.int .i64 0, .string ⟨#[]⟩, .bool false, .string ⟨#[]⟩, .int .u64 0] 158, Pts b2 [.func (.func 178) #[.pointer (some ⟨b, 0, none⟩)] #[]] 250, Pts b3 [.func (.func 176) #[.agg #[ptrV s.room, .int .i64 s.seq, .int .i64 s.place]] #[]] 250, CuP b C hl, V, W]) (fun xq_ => match xq_ with | (f, k, a) => f) (fun xq_ => match xq_ with | (f, k, a) => mu k a < f ∧ seekC C s own mu q key ab = seekF C s.place (findC C s own q) f k a) (mu key ab + 1, key, ab) ⟨Nat.lt_succ_self _, rfl⟩ ⟨rfl, rfl, rfl, rfl, rfl, rfl, trivial⟩ (ent_pick [3, 2, 0, 0, 0, 0, 0] rfl) ?_
  rintro ⟨f, k, a⟩ ⟨hmu, hsq⟩
  show VC _ _ _ _ [(0, .pointer (some ⟨b, 0, none⟩)), (2, .string k), (3, .bool a), (5, .pointer (some ⟨b5, 0, none⟩)), (8, .pointer (some ⟨b8, 0, none⟩)), (10, .func (.func 201) #[] #[.pointer (some ⟨b2, 0, none⟩), .pointer (some ⟨b3, 0, none⟩)])] ([Pts b5 [ptrV s.room, .int .i64 s.seq, .int .i64 s.place] 82, Pts b8 [.int .i64 0, .string ⟨#[]⟩, .bool false, .string ⟨#[]⟩, .int .u64 0] 158, Pts b2 [.func (.func 178) #[.pointer (some ⟨b, 0, none⟩)] #[]] 250, Pts b3 [.func (.func 176) #[.agg #[ptrV s.room, .int .i64 s.seq, .int .i64 s.place]] #[]] 250, CuP b C hl, V, W])
  obtain ⟨f, rfl⟩ : ∃ f', f = f' + 1 := ⟨f - 1, by omega⟩
  rw [seekF] at hsq
  refine vc_block ?_
  refine vc_seq ?_
  refine vc_region ?_
  iterate 3 refine vp ?_
  refine vc_callv ca_201 (us := []) (vs := [.pointer (some ⟨b2, 0, none⟩), .pointer (some ⟨b3, 0, none⟩)]) rfl [_, _] rfl [2, 2, 2, 2, 2] rfl (Does.re (over1_spec hO hS k a) (show _ = fdTup (findC C s own q k a) by simp only [findC]; rw [if_pos c23])) rfl ?_
  rintro _ _ ⟨rfl, rfl⟩
  iterate 5 refine vp ?_
  refine vc_alloc [.bool false, .string ⟨#[]⟩, .int .u64 0] ze_45 rfl rfl (fun b12 => ?_)
  refine vp ?_
  refine vc_storeP 0 rfl [_, _, _] [_, _, _] rfl rfl rfl sz_45 rfl rfl rfl ?_
  refine vp ?_
  refine vp ?_
  refine vc_nil ?_
  refine vc_then ?_
  refine vc_seq ?_
  refine vc_seq ?_
  refine vc_region ?_
  iterate 3 refine vp ?_
  first | refine vc_splitP 40 rfl (fun c40 => ?_) (fun c40 => ?_) | refine vc_splitN 40 rfl (fun c40 => ?_) (fun c40 => ?_) | refine vc_split 40 rfl (fun c40 => ?_) (fun c40 => ?_)
  ·skip
   have hok2 : (findC C s own q k a).ok = false := notT c40
   have hres : seekC C s own mu q key ab = none := by rw [hsq]; simp [hok2]
   refine vc_guardF 40 rfl rfl rfl rfl ?_
   refine vc_guardF 40 rfl rfl rfl rfl ?_
   refine vc_guardF 40 rfl rfl rfl rfl ?_
   refine vc_guardF 40 rfl rfl rfl rfl ?_
   refine vc_guardF 40 rfl rfl rfl rfl ?_
   refine vc_guardF 40 rfl rfl rfl rfl ?_
   refine vc_guardF 40 rfl rfl rfl rfl ?_
   refine vc_guardU 47 rfl rfl rfl ?_
   refine vc_guardU 47 rfl rfl rfl ?_
   refine vc_guardU 47 rfl rfl rfl ?_
   refine vc_guardU 47 rfl rfl rfl ?_
   refine vc_guardU 47 rfl rfl rfl ?_
   refine vc_guardU 47 rfl rfl rfl ?_
   refine vc_guardU 47 rfl rfl rfl ?_
   refine vc_guardF 40 rfl rfl rfl rfl ?_
   refine vp ?_
   refine vc_nil ?_
   refine vc_then ?_
   refine vc_condT rfl ?_
   refine vc_seq ?_
   refine vc_region ?_
   refine vc_y (y_build [] [_, _, _, _, _] rfl (bu_158_n  )) rfl ?_
   refine vc_storeP 7 rfl [_, _, _, _, _] [_, _, _, _, _] rfl rfl rfl sz_158 rfl rfl rfl ?_
   refine vp ?_
   refine vc_nil ?_
   refine vc_then ?_
   refine vc_ret ?_
   refine vc_thenRet ?_
   refine vc_inRet ?_
   refine vc_thenRet ?_
   refine vc_inRet ?_
   exact vc_endR Tryz.results142 (resL_cons (res_a 7 rfl (cs := [_, _, _, _, _]) ag_158 rfl (Pts.visA rfl)) (resL_cons (res_t rfl) (resL_nil))) _ (ent_pick [3, 3, 3] rfl) ⟨by rw [hres]; rfl, rfl⟩
  ·skip
   have hok2 : (findC C s own q k a).ok = true := notF c40
   refine vc_guardT 40 rfl rfl ?_
   refine vp ?_
   refine vc_guardT 40 rfl rfl ?_
   refine vp ?_
   refine vc_guardT 40 rfl rfl ?_
   refine vc_y (y_fieldP fl_163_1 1 rfl rfl) rfl ?_
   refine vc_guardT 40 rfl rfl ?_
   refine vc_y (y_fieldP fl_74_1 2 rfl rfl) rfl ?_
   refine vc_guardT 40 rfl rfl ?_
   refine vc_y (y_load1 3 rfl one_9 rfl (Pts.vis rfl)) rfl ?_
   refine vc_guardT 40 rfl rfl ?_
   refine vp ?_
   refine vc_guardT 40 rfl rfl ?_
   refine vp ?_
   first | refine vc_splitP 47 rfl (fun c47 => ?_) (fun c47 => ?_) | refine vc_splitN 47 rfl (fun c47 => ?_) (fun c47 => ?_) | refine vc_split 47 rfl (fun c47 => ?_) (fun c47 => ?_)
   ·skip
    have ht : sEq C.to ⟨#[]⟩ = false := notT c47
    refine vc_guardT 47 rfl rfl ?_
    refine vp ?_
    refine vc_guardT 47 rfl rfl ?_
    refine vp ?_
    refine vc_guardT 47 rfl rfl ?_
    refine vp ?_
    refine vc_guardT 47 rfl rfl ?_
    refine vc_y (y_fieldP fl_163_1 1 rfl rfl) rfl ?_
    refine vc_guardT 47 rfl rfl ?_
    refine vc_y (y_fieldP fl_74_1 2 rfl rfl) rfl ?_
    refine vc_guardT 47 rfl rfl ?_
    refine vc_y (y_load1 3 rfl one_9 rfl (Pts.vis rfl)) rfl ?_
    refine vc_guardT 47 rfl rfl ?_
    refine vp ?_
    refine vc_guardT 40 rfl rfl ?_
    refine vp ?_
    refine vp ?_
    refine vc_nil ?_
    refine vc_then ?_
    first | refine vc_condP rfl (fun c56 => ?_) (fun c56 => ?_) | refine vc_condN rfl (fun c56 => ?_) (fun c56 => ?_) | refine vc_cond rfl (fun c56 => ?_) (fun c56 => ?_)
    ·skip
     have hs : sLt (findC C s own q k a).key C.to = false := notT c56
     have hres : seekC C s own mu q key ab = none := by rw [hsq]; simp [hok2, ht, hs]
     refine vc_seq ?_
     refine vc_region ?_
     refine vc_y (y_build [] [_, _, _, _, _] rfl (bu_158_n  )) rfl ?_
     refine vc_storeP 7 rfl [_, _, _, _, _] [_, _, _, _, _] rfl rfl rfl sz_158 rfl rfl rfl ?_
     refine vp ?_
     refine vc_nil ?_
     refine vc_then ?_
     refine vc_ret ?_
     refine vc_thenRet ?_
     refine vc_inRet ?_
     refine vc_thenRet ?_
     refine vc_inRet ?_
     exact vc_endR Tryz.results142 (resL_cons (res_a 7 rfl (cs := [_, _, _, _, _]) ag_158 rfl (Pts.visA rfl)) (resL_cons (res_t rfl) (resL_nil))) _ (ent_pick [3, 3, 3] rfl) ⟨by rw [hres]; rfl, rfl⟩
    ·skip
     have hs : sLt (findC C s own q k a).key C.to = true := notF c56
     refine vc_skip ?_
     refine vc_then ?_
     refine vc_seq ?_
     refine vc_seq ?_
     refine vc_region ?_
     refine vp ?_
     refine vc_nil ?_
     refine vc_then ?_
     first | refine vc_condP rfl (fun c58 => ?_) (fun c58 => ?_) | refine vc_condN rfl (fun c58 => ?_) (fun c58 => ?_) | refine vc_cond rfl (fun c58 => ?_) (fun c58 => ?_)
     ·skip
      have hres : seekC C s own mu q key ab = some ⟨s.place, (findC C s own q k a).key, (findC C s own q k a).val⟩ := by rw [hsq]; first | simp [hok2, ht, hs, c58] | simp [hok2, ht, c58]
      refine vc_seq ?_
      refine vc_region ?_
      refine vc_y (y_fieldP fl_82_2 2 rfl rfl) rfl ?_
      refine vc_y (y_load1 6 rfl one_3 rfl (Pts.vis rfl)) rfl ?_
      refine vp ?_
      refine vc_y (y_loadA 0 rfl (cs := [_, _, _]) ag_45 rfl (Pts.visA rfl)) rfl ?_
      refine vc_y (y_build [(0, _), (1, _), (2, _)] [_, _, _, _, _] rfl (bu_158_0_1_2 _ _ _ _ _ rfl rfl)) rfl ?_
      refine vc_storeP 7 rfl [_, _, _, _, _] [_, _, _, _, _] rfl rfl rfl sz_158 rfl rfl rfl ?_
      refine vp ?_
      refine vc_nil ?_
      refine vc_then ?_
      refine vc_ret ?_
      refine vc_thenRet ?_
      refine vc_inRet ?_
      refine vc_thenRet ?_
      refine vc_inRet ?_
      exact vc_endR Tryz.results142 (resL_cons (res_a 7 rfl (cs := [_, _, _, _, _]) ag_158 rfl (Pts.visA rfl)) (resL_cons (res_t rfl) (resL_nil))) _ (ent_pick [3, 3, 3] rfl) ⟨by rw [hres]; rfl, rfl⟩
     ·skip
      refine vc_skip ?_
      refine vc_then ?_
      refine vc_region ?_
      iterate 3 refine vp ?_
      refine vc_nil ?_
      refine vc_inNormal ?_
      refine vc_then ?_
      exact vc_again (x := (f + 1, k, a)) (f, (findC C s own q k a).key, true) ⟨by have := mu_step hM hok2 c58; omega, by rw [hsq]; first | simp [hok2, ht, hs, c58] | simp [hok2, ht, c58]⟩ (by show f < f + 1; omega) ⟨rfl, rfl, rfl, rfl, rfl, rfl, trivial⟩ (ent_pick [6, 6, 1, 1, 1, 1, 1] rfl)
   ·skip
    have ht : sEq C.to ⟨#[]⟩ = true := notF c47
    refine vc_guardF 47 rfl rfl rfl rfl ?_
    refine vc_guardF 47 rfl rfl rfl rfl ?_
    refine vc_guardF 47 rfl rfl rfl rfl ?_
    refine vc_guardF 47 rfl rfl rfl rfl ?_
    refine vc_guardF 47 rfl rfl rfl rfl ?_
    refine vc_guardF 47 rfl rfl rfl rfl ?_
    refine vc_guardF 47 rfl rfl rfl rfl ?_
    refine vc_guardT 40 rfl rfl ?_
    refine vp ?_
    refine vp ?_
    refine vc_nil ?_
    refine vc_then ?_
    refine vc_condF rfl ?_
    refine vc_skip ?_
    refine vc_then ?_
    refine vc_seq ?_
    refine vc_seq ?_
    refine vc_region ?_
    refine vp ?_
    refine vc_nil ?_
    refine vc_then ?_
    first | refine vc_condP rfl (fun c58 => ?_) (fun c58 => ?_) | refine vc_condN rfl (fun c58 => ?_) (fun c58 => ?_) | refine vc_cond rfl (fun c58 => ?_) (fun c58 => ?_)
    ·skip
     have hres : seekC C s own mu q key ab = some ⟨s.place, (findC C s own q k a).key, (findC C s own q k a).val⟩ := by rw [hsq]; first | simp [hok2, ht, hs, c58] | simp [hok2, ht, c58]
     refine vc_seq ?_
     refine vc_region ?_
     refine vc_y (y_fieldP fl_82_2 2 rfl rfl) rfl ?_
     refine vc_y (y_load1 6 rfl one_3 rfl (Pts.vis rfl)) rfl ?_
     refine vp ?_
     refine vc_y (y_loadA 0 rfl (cs := [_, _, _]) ag_45 rfl (Pts.visA rfl)) rfl ?_
     refine vc_y (y_build [(0, _), (1, _), (2, _)] [_, _, _, _, _] rfl (bu_158_0_1_2 _ _ _ _ _ rfl rfl)) rfl ?_
     refine vc_storeP 7 rfl [_, _, _, _, _] [_, _, _, _, _] rfl rfl rfl sz_158 rfl rfl rfl ?_
     refine vp ?_
     refine vc_nil ?_
     refine vc_then ?_
     refine vc_ret ?_
     refine vc_thenRet ?_
     refine vc_inRet ?_
     refine vc_thenRet ?_
     refine vc_inRet ?_
     exact vc_endR Tryz.results142 (resL_cons (res_a 7 rfl (cs := [_, _, _, _, _]) ag_158 rfl (Pts.visA rfl)) (resL_cons (res_t rfl) (resL_nil))) _ (ent_pick [3, 3, 3] rfl) ⟨by rw [hres]; rfl, rfl⟩
    ·skip
     refine vc_skip ?_
     refine vc_then ?_
     refine vc_region ?_
     iterate 3 refine vp ?_
     refine vc_nil ?_
     refine vc_inNormal ?_
     refine vc_then ?_
     exact vc_again (x := (f + 1, k, a)) (f, (findC C s own q k a).key, true) ⟨by have := mu_step hM hok2 c58; omega, by rw [hsq]; first | simp [hok2, ht, hs, c58] | simp [hok2, ht, c58]⟩ (by show f < f + 1; omega) ⟨rfl, rfl, rfl, rfl, rfl, rfl, trivial⟩ (ent_pick [6, 6, 1, 1, 1, 1, 1] rfl)
 ·skip
  refine vc_skip ?_
  refine vc_then ?_
  refine vc_block ?_
  refine vc_loop (α := Nat × ByteArray × Bool) (fun xq_ => match xq_ with | (f, k, a) => [(0, .pointer (some ⟨b, 0, none⟩)), (2, .string k), (3, .bool a), (5, .pointer (some ⟨b5, 0, none⟩)), (8, .pointer (some ⟨b8, 0, none⟩)), (10, .func (.func 176) #[.agg #[ptrV s.room, .int .i64 s.seq, .int .i64 s.place]] #[])]) (fun xq_ => match xq_ with | (f, k, a) => [Pts b5 [ptrV s.room, .int .i64 s.seq, .int .i64 s.place] 82, Pts b8 [.int .i64 0, .string ⟨#[]⟩, .bool false, .string ⟨#[]⟩, .int .u64 0] 158, CuP b C hl, V, W]) (fun xq_ => match xq_ with | (f, k, a) => f) (fun xq_ => match xq_ with | (f, k, a) => mu k a < f ∧ seekC C s own mu q key ab = seekF C s.place (findC C s own q) f k a) (mu key ab + 1, key, ab) ⟨Nat.lt_succ_self _, rfl⟩ ⟨rfl, rfl, rfl, rfl, rfl, rfl, trivial⟩ (ent_pick [1, 0, 0, 0, 0] rfl) ?_
  rintro ⟨f, k, a⟩ ⟨hmu, hsq⟩
  show VC _ _ _ _ [(0, .pointer (some ⟨b, 0, none⟩)), (2, .string k), (3, .bool a), (5, .pointer (some ⟨b5, 0, none⟩)), (8, .pointer (some ⟨b8, 0, none⟩)), (10, .func (.func 176) #[.agg #[ptrV s.room, .int .i64 s.seq, .int .i64 s.place]] #[])] ([Pts b5 [ptrV s.room, .int .i64 s.seq, .int .i64 s.place] 82, Pts b8 [.int .i64 0, .string ⟨#[]⟩, .bool false, .string ⟨#[]⟩, .int .u64 0] 158, CuP b C hl, V, W])
  obtain ⟨f, rfl⟩ : ∃ f', f = f' + 1 := ⟨f - 1, by omega⟩
  rw [seekF] at hsq
  refine vc_block ?_
  refine vc_seq ?_
  refine vc_region ?_
  iterate 3 refine vp ?_
  refine vc_callv ca_176 (us := [.agg #[ptrV s.room, .int .i64 s.seq, .int .i64 s.place]]) (vs := []) rfl [_, _] rfl [4] rfl (Does.re (inRoom_spec hS k a) (show _ = fdTup (findC C s own q k a) by simp only [findC]; rw [if_neg c23])) rfl ?_
  rintro _ _ ⟨rfl, rfl⟩
  iterate 5 refine vp ?_
  refine vc_alloc [.bool false, .string ⟨#[]⟩, .int .u64 0] ze_45 rfl rfl (fun b12 => ?_)
  refine vp ?_
  refine vc_storeP 0 rfl [_, _, _] [_, _, _] rfl rfl rfl sz_45 rfl rfl rfl ?_
  refine vp ?_
  refine vp ?_
  refine vc_nil ?_
  refine vc_then ?_
  refine vc_seq ?_
  refine vc_seq ?_
  refine vc_region ?_
  iterate 3 refine vp ?_
  first | refine vc_splitP 40 rfl (fun c40 => ?_) (fun c40 => ?_) | refine vc_splitN 40 rfl (fun c40 => ?_) (fun c40 => ?_) | refine vc_split 40 rfl (fun c40 => ?_) (fun c40 => ?_)
  ·skip
   have hok2 : (findC C s own q k a).ok = false := notT c40
   have hres : seekC C s own mu q key ab = none := by rw [hsq]; simp [hok2]
   refine vc_guardF 40 rfl rfl rfl rfl ?_
   refine vc_guardF 40 rfl rfl rfl rfl ?_
   refine vc_guardF 40 rfl rfl rfl rfl ?_
   refine vc_guardF 40 rfl rfl rfl rfl ?_
   refine vc_guardF 40 rfl rfl rfl rfl ?_
   refine vc_guardF 40 rfl rfl rfl rfl ?_
   refine vc_guardF 40 rfl rfl rfl rfl ?_
   refine vc_guardU 47 rfl rfl rfl ?_
   refine vc_guardU 47 rfl rfl rfl ?_
   refine vc_guardU 47 rfl rfl rfl ?_
   refine vc_guardU 47 rfl rfl rfl ?_
   refine vc_guardU 47 rfl rfl rfl ?_
   refine vc_guardU 47 rfl rfl rfl ?_
   refine vc_guardU 47 rfl rfl rfl ?_
   refine vc_guardF 40 rfl rfl rfl rfl ?_
   refine vp ?_
   refine vc_nil ?_
   refine vc_then ?_
   refine vc_condT rfl ?_
   refine vc_seq ?_
   refine vc_region ?_
   refine vc_y (y_build [] [_, _, _, _, _] rfl (bu_158_n  )) rfl ?_
   refine vc_storeP 3 rfl [_, _, _, _, _] [_, _, _, _, _] rfl rfl rfl sz_158 rfl rfl rfl ?_
   refine vp ?_
   refine vc_nil ?_
   refine vc_then ?_
   refine vc_ret ?_
   refine vc_thenRet ?_
   refine vc_inRet ?_
   refine vc_thenRet ?_
   refine vc_inRet ?_
   exact vc_endR Tryz.results142 (resL_cons (res_a 3 rfl (cs := [_, _, _, _, _]) ag_158 rfl (Pts.visA rfl)) (resL_cons (res_t rfl) (resL_nil))) _ (ent_pick [4, 4, 1] rfl) ⟨by rw [hres]; rfl, rfl⟩
  ·skip
   have hok2 : (findC C s own q k a).ok = true := notF c40
   refine vc_guardT 40 rfl rfl ?_
   refine vp ?_
   refine vc_guardT 40 rfl rfl ?_
   refine vp ?_
   refine vc_guardT 40 rfl rfl ?_
   refine vc_y (y_fieldP fl_163_1 1 rfl rfl) rfl ?_
   refine vc_guardT 40 rfl rfl ?_
   refine vc_y (y_fieldP fl_74_1 2 rfl rfl) rfl ?_
   refine vc_guardT 40 rfl rfl ?_
   refine vc_y (y_load1 4 rfl one_9 rfl (Pts.vis rfl)) rfl ?_
   refine vc_guardT 40 rfl rfl ?_
   refine vp ?_
   refine vc_guardT 40 rfl rfl ?_
   refine vp ?_
   first | refine vc_splitP 47 rfl (fun c47 => ?_) (fun c47 => ?_) | refine vc_splitN 47 rfl (fun c47 => ?_) (fun c47 => ?_) | refine vc_split 47 rfl (fun c47 => ?_) (fun c47 => ?_)
   ·skip
    have ht : sEq C.to ⟨#[]⟩ = false := notT c47
    refine vc_guardT 47 rfl rfl ?_
    refine vp ?_
    refine vc_guardT 47 rfl rfl ?_
    refine vp ?_
    refine vc_guardT 47 rfl rfl ?_
    refine vp ?_
    refine vc_guardT 47 rfl rfl ?_
    refine vc_y (y_fieldP fl_163_1 1 rfl rfl) rfl ?_
    refine vc_guardT 47 rfl rfl ?_
    refine vc_y (y_fieldP fl_74_1 2 rfl rfl) rfl ?_
    refine vc_guardT 47 rfl rfl ?_
    refine vc_y (y_load1 4 rfl one_9 rfl (Pts.vis rfl)) rfl ?_
    refine vc_guardT 47 rfl rfl ?_
    refine vp ?_
    refine vc_guardT 40 rfl rfl ?_
    refine vp ?_
    refine vp ?_
    refine vc_nil ?_
    refine vc_then ?_
    first | refine vc_condP rfl (fun c56 => ?_) (fun c56 => ?_) | refine vc_condN rfl (fun c56 => ?_) (fun c56 => ?_) | refine vc_cond rfl (fun c56 => ?_) (fun c56 => ?_)
    ·skip
     have hs : sLt (findC C s own q k a).key C.to = false := notT c56
     have hres : seekC C s own mu q key ab = none := by rw [hsq]; simp [hok2, ht, hs]
     refine vc_seq ?_
     refine vc_region ?_
     refine vc_y (y_build [] [_, _, _, _, _] rfl (bu_158_n  )) rfl ?_
     refine vc_storeP 3 rfl [_, _, _, _, _] [_, _, _, _, _] rfl rfl rfl sz_158 rfl rfl rfl ?_
     refine vp ?_
     refine vc_nil ?_
     refine vc_then ?_
     refine vc_ret ?_
     refine vc_thenRet ?_
     refine vc_inRet ?_
     refine vc_thenRet ?_
     refine vc_inRet ?_
     exact vc_endR Tryz.results142 (resL_cons (res_a 3 rfl (cs := [_, _, _, _, _]) ag_158 rfl (Pts.visA rfl)) (resL_cons (res_t rfl) (resL_nil))) _ (ent_pick [4, 4, 1] rfl) ⟨by rw [hres]; rfl, rfl⟩
    ·skip
     have hs : sLt (findC C s own q k a).key C.to = true := notF c56
     refine vc_skip ?_
     refine vc_then ?_
     refine vc_seq ?_
     refine vc_seq ?_
     refine vc_region ?_
     refine vp ?_
     refine vc_nil ?_
     refine vc_then ?_
     first | refine vc_condP rfl (fun c58 => ?_) (fun c58 => ?_) | refine vc_condN rfl (fun c58 => ?_) (fun c58 => ?_) | refine vc_cond rfl (fun c58 => ?_) (fun c58 => ?_)
     ·skip
      have hres : seekC C s own mu q key ab = some ⟨s.place, (findC C s own q k a).key, (findC C s own q k a).val⟩ := by rw [hsq]; first | simp [hok2, ht, hs, c58] | simp [hok2, ht, c58]
      refine vc_seq ?_
      refine vc_region ?_
      refine vc_y (y_fieldP fl_82_2 2 rfl rfl) rfl ?_
      refine vc_y (y_load1 2 rfl one_3 rfl (Pts.vis rfl)) rfl ?_
      refine vp ?_
      refine vc_y (y_loadA 0 rfl (cs := [_, _, _]) ag_45 rfl (Pts.visA rfl)) rfl ?_
      refine vc_y (y_build [(0, _), (1, _), (2, _)] [_, _, _, _, _] rfl (bu_158_0_1_2 _ _ _ _ _ rfl rfl)) rfl ?_
      refine vc_storeP 3 rfl [_, _, _, _, _] [_, _, _, _, _] rfl rfl rfl sz_158 rfl rfl rfl ?_
      refine vp ?_
      refine vc_nil ?_
      refine vc_then ?_
      refine vc_ret ?_
      refine vc_thenRet ?_
      refine vc_inRet ?_
      refine vc_thenRet ?_
      refine vc_inRet ?_
      exact vc_endR Tryz.results142 (resL_cons (res_a 3 rfl (cs := [_, _, _, _, _]) ag_158 rfl (Pts.visA rfl)) (resL_cons (res_t rfl) (resL_nil))) _ (ent_pick [4, 4, 1] rfl) ⟨by rw [hres]; rfl, rfl⟩
     ·skip
      refine vc_skip ?_
      refine vc_then ?_
      refine vc_region ?_
      iterate 3 refine vp ?_
      refine vc_nil ?_
      refine vc_inNormal ?_
      refine vc_then ?_
      exact vc_again (x := (f + 1, k, a)) (f, (findC C s own q k a).key, true) ⟨by have := mu_step hM hok2 c58; omega, by rw [hsq]; first | simp [hok2, ht, hs, c58] | simp [hok2, ht, c58]⟩ (by show f < f + 1; omega) ⟨rfl, rfl, rfl, rfl, rfl, rfl, trivial⟩ (ent_pick [2, 2, 2, 2, 1] rfl)
   ·skip
    have ht : sEq C.to ⟨#[]⟩ = true := notF c47
    refine vc_guardF 47 rfl rfl rfl rfl ?_
    refine vc_guardF 47 rfl rfl rfl rfl ?_
    refine vc_guardF 47 rfl rfl rfl rfl ?_
    refine vc_guardF 47 rfl rfl rfl rfl ?_
    refine vc_guardF 47 rfl rfl rfl rfl ?_
    refine vc_guardF 47 rfl rfl rfl rfl ?_
    refine vc_guardF 47 rfl rfl rfl rfl ?_
    refine vc_guardT 40 rfl rfl ?_
    refine vp ?_
    refine vp ?_
    refine vc_nil ?_
    refine vc_then ?_
    refine vc_condF rfl ?_
    refine vc_skip ?_
    refine vc_then ?_
    refine vc_seq ?_
    refine vc_seq ?_
    refine vc_region ?_
    refine vp ?_
    refine vc_nil ?_
    refine vc_then ?_
    first | refine vc_condP rfl (fun c58 => ?_) (fun c58 => ?_) | refine vc_condN rfl (fun c58 => ?_) (fun c58 => ?_) | refine vc_cond rfl (fun c58 => ?_) (fun c58 => ?_)
    ·skip
     have hres : seekC C s own mu q key ab = some ⟨s.place, (findC C s own q k a).key, (findC C s own q k a).val⟩ := by rw [hsq]; first | simp [hok2, ht, hs, c58] | simp [hok2, ht, c58]
     refine vc_seq ?_
     refine vc_region ?_
     refine vc_y (y_fieldP fl_82_2 2 rfl rfl) rfl ?_
     refine vc_y (y_load1 2 rfl one_3 rfl (Pts.vis rfl)) rfl ?_
     refine vp ?_
     refine vc_y (y_loadA 0 rfl (cs := [_, _, _]) ag_45 rfl (Pts.visA rfl)) rfl ?_
     refine vc_y (y_build [(0, _), (1, _), (2, _)] [_, _, _, _, _] rfl (bu_158_0_1_2 _ _ _ _ _ rfl rfl)) rfl ?_
     refine vc_storeP 3 rfl [_, _, _, _, _] [_, _, _, _, _] rfl rfl rfl sz_158 rfl rfl rfl ?_
     refine vp ?_
     refine vc_nil ?_
     refine vc_then ?_
     refine vc_ret ?_
     refine vc_thenRet ?_
     refine vc_inRet ?_
     refine vc_thenRet ?_
     refine vc_inRet ?_
     exact vc_endR Tryz.results142 (resL_cons (res_a 3 rfl (cs := [_, _, _, _, _]) ag_158 rfl (Pts.visA rfl)) (resL_cons (res_t rfl) (resL_nil))) _ (ent_pick [4, 4, 1] rfl) ⟨by rw [hres]; rfl, rfl⟩
    ·skip
     refine vc_skip ?_
     refine vc_then ?_
     refine vc_region ?_
     iterate 3 refine vp ?_
     refine vc_nil ?_
     refine vc_inNormal ?_
     refine vc_then ?_
     exact vc_again (x := (f + 1, k, a)) (f, (findC C s own q k a).key, true) ⟨by have := mu_step hM hok2 c58; omega, by rw [hsq]; first | simp [hok2, ht, hs, c58] | simp [hok2, ht, c58]⟩ (by show f < f + 1; omega) ⟨rfl, rfl, rfl, rfl, rfl, rfl, trivial⟩ (ent_pick [2, 2, 2, 2, 1] rfl)
theorem row_spec {b : Nat} {C : Cu} {hl : SH} {V W : HP} {own : Qw} (hO : OwnOk V C.own own) {Q : SrcV → Qr} (hS : ∀ s ∈ C.srcs, SrcOk W s (Q s)) {mu : ByteArray → Bool → Nat} (hM : OwnMu own mu) (hb : C.srcs.length ≤ 1000000) : Does Tryz.prog 105 [.pointer (some ⟨b, 0, none⟩)] (CuO b C hl ++ [V, W]) (fun v l => v = rowTupR (rowC C own mu Q) ∧ l = CuO b C hl ++ [V, W]) := by
 refine spec_of Tryz.func105 rfl Tryz.ntmps105 Tryz.results105 _ (by simp) fun ι F => ?_
 refine vc_see 1 rfl (Sl.vis.imp fun w r => r.len) (fun hlen => ?_)
 refine vc_seq ?_
 refine vc_region ?_
 refine vc_alloc [.int .i64 0, .string ⟨#[]⟩, .bool false, .string ⟨#[]⟩, .int .u64 0] ze_158 rfl rfl (fun b2 => ?_)
 refine vp ?_
 refine vc_nil ?_
 refine vc_then ?_
 refine vc_seq ?_
 refine vc_region ?_
 refine vc_alloc [.int .i64 0, .string ⟨#[]⟩, .bool false, .string ⟨#[]⟩, .int .u64 0] ze_158 rfl rfl (fun b4 => ?_)
 refine vc_nil ?_
 refine vc_then ?_
 refine vc_seq ?_
 refine vc_region ?_
 refine vp ?_
 refine vc_nil ?_
 refine vc_then ?_
 refine vc_seq ?_
 refine vc_seq ?_
 refine vc_region ?_
 refine vp ?_
 refine vp ?_
 refine vc_y (y_fieldP fl_163_0 0 rfl rfl) rfl ?_
 refine vc_y (y_load1 2 rfl one_80 rfl (Pts.vis rfl)) rfl ?_
 refine vc_y (y_len Tryz.underlying80 rfl (by first | assumption | rfl)) rfl ?_
 refine vp ?_
 refine vc_nil ?_
 refine vc_then ?_
 refine vc_block ?_
 refine vc_loop (α := Nat × Option RowT) (fun xq_ => match xq_ with | (i, best) => [(0, .pointer (some ⟨b, 0, none⟩)), (2, .pointer (some ⟨b2, 0, none⟩)), (4, .pointer (some ⟨b4, 0, none⟩)), (5, .bool best.isSome), (15, hl.v), (16, .int .i64 (C.srcs.length : Int)), (17, .int .i64 (i : Int))]) (fun xq_ => match xq_ with | (i, best) => Pts b4 ((best).getD row0).cs 158 :: Pts b2 [.int .i64 0, .string ⟨#[]⟩, .bool false, .string ⟨#[]⟩, .int .u64 0] 158 :: (CuO b C hl ++ [V, W])) (fun xq_ => match xq_ with | (i, best) => C.srcs.length - i) (fun xq_ => match xq_ with | (i, best) => i ≤ C.srcs.length ∧ rowC C own mu Q = rowsC C own mu Q (C.srcs.drop i) best) (0, none) ⟨Nat.zero_le _, rfl⟩ ⟨rfl, rfl, rfl, rfl, rfl, rfl, rfl, trivial⟩ (ent_pick [0, 0, 0, 0, 0, 0] rfl) ?_
 rintro ⟨i, best⟩ ⟨hi, hch⟩
 show VC _ _ _ _ [(0, .pointer (some ⟨b, 0, none⟩)), (2, .pointer (some ⟨b2, 0, none⟩)), (4, .pointer (some ⟨b4, 0, none⟩)), (5, .bool best.isSome), (15, hl.v), (16, .int .i64 (C.srcs.length : Int)), (17, .int .i64 (i : Int))] (Pts b4 ((best).getD row0).cs 158 :: Pts b2 [.int .i64 0, .string ⟨#[]⟩, .bool false, .string ⟨#[]⟩, .int .u64 0] 158 :: (CuO b C hl ++ [V, W]))
 refine vc_seq ?_
 refine vc_region ?_
 refine vp ?_
 refine vc_nil ?_
 refine vc_then ?_
 refine vc_seq ?_
 first | refine vc_condP rfl (fun c18 => ?_) (fun c18 => ?_) | refine vc_condN rfl (fun c18 => ?_) (fun c18 => ?_) | refine vc_cond rfl (fun c18 => ?_) (fun c18 => ?_)
 ·skip
  have hi2 : i < C.srcs.length := by omega
  have hch2 := hch.trans (rowsC_at hi2 best)
  have hSi := hS _ (List.getElem_mem hi2)
  refine vc_skip ?_
  refine vc_then ?_
  refine vc_seq ?_
  refine vc_block ?_
  refine vc_seq ?_
  refine vc_region ?_
  refine vc_y (y_elem 3 rfl (Sl.vis) i rfl hi2 sl_80 rfl rfl) rfl ?_
  refine vc_y (y_loadA 3 rfl (cs := [_, _, _]) ag_82 rfl (Rd.visA (Sl.vis) (List.getElem?_eq_getElem (by first | assumption | omega)) rfl)) rfl ?_
  refine vc_alloc [.pointer none, .int .i64 0, .int .i64 0] ze_82 rfl rfl (fun b7 => ?_)
  refine vc_storeP 0 rfl [_, _, _] [_, _, _] rfl rfl rfl sz_82 rfl rfl rfl ?_
  refine vc_nil ?_
  refine vc_then ?_
  refine vc_seq ?_
  refine vc_region ?_
  refine vp ?_
  refine vc_y (y_loadA 0 rfl (cs := [_, _, _]) ag_82 rfl (Pts.visA rfl)) rfl ?_
  refine vc_callv ca_141 (us := []) (vs := []) rfl [_, _] rfl [3, 3] rfl (from_spec0 C.srcs[i]) rfl ?_
  rintro _ _ ⟨rfl, rfl⟩
  iterate 5 refine vp ?_
  refine vc_nil ?_
  refine vc_then ?_
  refine vc_seq ?_
  refine vc_region ?_
  refine vp ?_
  refine vc_y (y_loadA 2 rfl (cs := [_, _, _]) ag_82 rfl (Pts.visA rfl)) rfl ?_
  refine vp ?_
  refine vp ?_
  refine vc_callv ca_142 (us := []) (vs := []) rfl [_, _, _, _] rfl [0, 4, 4] rfl (seek_spec hO hSi hM (fromC C C.srcs[i]).1 (fromC C C.srcs[i]).2) rfl ?_
  rintro _ _ ⟨rfl, rfl⟩
  iterate 3 refine vp ?_
  refine vc_alloc [.int .i64 0, .string ⟨#[]⟩, .bool false, .string ⟨#[]⟩, .int .u64 0] ze_158 rfl rfl (fun b10 => ?_)
  refine vc_storeP 0 rfl [_, _, _, _, _] [_, _, _, _, _] rfl rfl rfl sz_158 rfl rfl rfl ?_
  refine vp ?_
  refine vc_nil ?_
  refine vc_then ?_
  refine vc_seq ?_
  refine vc_draw (by kernel_rfl) _ none [0, 5] rfl ?_
  refine tpp 0 ?_
  refine tpp 1 ?_
  first | refine va_splitP 36 rfl (fun c36 => ?_) (fun c36 => ?_) | refine va_splitN 36 rfl (fun c36 => ?_) (fun c36 => ?_) | refine va_split 36 rfl (fun c36 => ?_) (fun c36 => ?_)
  ·skip
   obtain ⟨x, hx⟩ : ∃ x, seekC C C.srcs[i] own mu (Q C.srcs[i]) (fromC C C.srcs[i]).1 (fromC C C.srcs[i]).2 = some x := by
    cases h0 : seekC C C.srcs[i] own mu (Q C.srcs[i]) (fromC C C.srcs[i]).1 (fromC C C.srcs[i]).2 with
    | none => rw [h0] at c36; cases c36
    | some x => exact ⟨x, rfl⟩
   rw [hx] at hch2 ⊢
   refine tgp 2 36 ?_
   refine tgp 3 36 ?_
   refine tgp 4 36 ?_
   first | refine va_splitP 39 rfl (fun c39 => ?_) (fun c39 => ?_) | refine va_splitN 39 rfl (fun c39 => ?_) (fun c39 => ?_) | refine va_split 39 rfl (fun c39 => ?_) (fun c39 => ?_)
   ·skip
    obtain rfl : best = none := by
     cases best with
     | none => rfl
     | some y => cases c39
    have hst : rowStep none (some x) = some x := rfl
    refine sk 5 39 ?_
    refine sk 6 39 ?_
    refine sk 7 39 ?_
    refine sk 8 39 ?_
    refine sk 9 39 ?_
    refine sk 10 39 ?_
    refine sk 11 39 ?_
    refine sk 12 39 ?_
    refine sk 13 39 ?_
    refine sk 14 39 ?_
    refine sk 15 39 ?_
    refine sk 16 39 ?_
    refine sk 17 39 ?_
    refine tgp 18 36 ?_
    refine tpp 19 ?_
    refine va_done (by kernel_rfl) ?_
    refine vc_then ?_
    refine vc_condT rfl ?_
    refine vc_region ?_
    refine vc_y (y_loadA 0 rfl (cs := [_, _, _, _, _]) ag_158 rfl (Pts.visA rfl)) rfl ?_
    refine vc_storeP 6 rfl [_, _, _, _, _] [_, _, _, _, _] rfl rfl rfl sz_158 rfl rfl rfl ?_
    refine vp ?_
    refine vc_nil ?_
    refine vc_inNormal ?_
    refine vc_then ?_
    refine vc_region ?_
    first | refine vc_y (y_arith _ rfl (wrapNadd (by omega))) rfl ?_ | refine vc_y (y_arith _ rfl (wrap64 (by omega) (by omega))) rfl ?_ | refine vp ?_
    refine vp ?_
    refine vc_nil ?_
    refine vc_then ?_
    first | exact vc_again (x := (i, none)) (i + 1, some x) ⟨hi2, by rw [hch2, hst]⟩ (by show C.srcs.length - (i + 1) < C.srcs.length - i; omega) ⟨rfl, rfl, rfl, rfl, rfl, rfl, rfl, trivial⟩ (ent_pick [6, 6, 1, 3, 1, 1] rfl) | exact vc_again (x := (i, some y)) (i + 1, some x) ⟨hi2, by rw [hch2, hst]⟩ (by show C.srcs.length - (i + 1) < C.srcs.length - i; omega) ⟨rfl, rfl, rfl, rfl, rfl, rfl, rfl, trivial⟩ (ent_pick [6, 6, 1, 3, 1, 1] rfl) | exact vc_again (x := (i, some y)) (i + 1, some y) ⟨hi2, by rw [hch2, hst]⟩ (by show C.srcs.length - (i + 1) < C.srcs.length - i; omega) ⟨rfl, rfl, rfl, rfl, rfl, rfl, rfl, trivial⟩ (ent_pick [6, 6, 1, 3, 1, 1] rfl) | exact vc_again (x := (i, best)) (i + 1, best) ⟨hi2, by rw [hch2, hst]⟩ (by show C.srcs.length - (i + 1) < C.srcs.length - i; omega) ⟨rfl, rfl, rfl, rfl, rfl, rfl, rfl, trivial⟩ (ent_pick [6, 6, 1, 3, 1, 1] rfl)
   ·skip
    obtain ⟨y, rfl⟩ : ∃ y, best = some y := by
     cases best with
     | none => cases c39
     | some y => exact ⟨y, rfl⟩
    refine tg 5 39 rfl (by exact y_fieldP fl_158_1 1 rfl rfl) ?_
    refine tkg 6 39 rfl (by exact y_load1 0 rfl one_9 rfl (Pts.vis rfl)) ?_
    refine tg 7 39 rfl (by exact y_fieldP fl_158_1 1 rfl rfl) ?_
    refine tkg 8 39 rfl (by exact y_load1 1 rfl one_9 rfl (Pts.vis rfl)) ?_
    refine tg 10 39 rfl (by exact y_fieldP fl_158_0 0 rfl rfl) ?_
    refine tkg 11 39 rfl (by exact y_load1 0 rfl one_3 rfl (Pts.vis rfl)) ?_
    refine tg 12 39 rfl (by exact y_fieldP fl_158_0 0 rfl rfl) ?_
    refine tkg 13 39 rfl (by exact y_load1 1 rfl one_3 rfl (Pts.vis rfl)) ?_
    refine va_ready [9] (by kernel_rfl) rfl ?_
    refine vo_cons rfl (fun hC0 => ?_) ?_
    ·skip
     refine vc_guardT 39 rfl rfl ?_
     refine vc_callv ca_144 (us := []) (vs := []) rfl [_, _] rfl [] rfl (cmpStr x.key y.key) rfl ?_
     rintro _ _ ⟨rfl, rfl⟩
     refine vc_nil ?_
     refine vc_then ?_
     refine va_kept hC0 [0, 5] rfl ?_
     clear hC0
     refine va_ready [14] (by kernel_rfl) rfl ?_
     refine vo_cons rfl (fun hC0 => ?_) ?_
     ·skip
      refine vc_guardT 39 rfl rfl ?_
      refine vc_callv ca_145 (us := []) (vs := []) rfl [_, _] rfl [] rfl (cmpInt x.room y.room) rfl ?_
      rintro _ _ ⟨rfl, rfl⟩
      refine vc_nil ?_
      refine vc_then ?_
      refine va_kept hC0 [0, 5] rfl ?_
      clear hC0
      refine va_ready [15] (by kernel_rfl) rfl ?_
      refine vo_cons rfl (fun hC0 => ?_) ?_
      ·skip
       refine vc_guardT 39 rfl rfl ?_
       refine vc_buildSlice (E := eInt) [(0, _), (1, _)] [cmpS x.key y.key, if x.room < y.room then -1 else if y.room < x.room then 1 else 0] rfl rfl (bs_72_2 _ _ rfl rfl) rfl (fun h50 => ?_)
       refine vc_nil ?_
       refine vc_then ?_
       refine va_kept hC0 [1, 6] rfl ?_
       clear hC0
       refine va_ready [16] (by kernel_rfl) rfl ?_
       refine vo_cons rfl (fun hC0 => ?_) ?_
       ·skip
        refine vc_guardT 39 rfl rfl ?_
        refine vc_callv ca_143 (us := []) (vs := []) rfl [_] rfl [0] rfl (cmpOr (a := cmpS x.key y.key) (b := if x.room < y.room then -1 else if y.room < x.room then 1 else 0) Sl.vis) rfl ?_
        rintro _ _ ⟨rfl, rfl⟩
        refine vc_nil ?_
        refine vc_then ?_
        refine va_kept hC0 [1, 6] rfl ?_
        clear hC0
        refine tgp 17 39 ?_
        refine tgp 18 36 ?_
        refine tpp 19 ?_
        refine va_done (by kernel_rfl) ?_
        refine vc_then ?_
        first | refine vc_condP rfl (fun c54 => ?_) (fun c54 => ?_) | refine vc_condN rfl (fun c54 => ?_) (fun c54 => ?_) | refine vc_cond rfl (fun c54 => ?_) (fun c54 => ?_)
        ·skip
         have hst : rowStep (some y) (some x) = some x := by simp only [rowStep]; rw [if_pos ((less_iff x y).1 c54)]
         refine vc_region ?_
         refine vc_y (y_loadA 1 rfl (cs := [_, _, _, _, _]) ag_158 rfl (Pts.visA rfl)) rfl ?_
         refine vc_storeP 7 rfl [_, _, _, _, _] [_, _, _, _, _] rfl rfl rfl sz_158 rfl rfl rfl ?_
         refine vp ?_
         refine vc_nil ?_
         refine vc_inNormal ?_
         refine vc_then ?_
         refine vc_region ?_
         first | refine vc_y (y_arith _ rfl (wrapNadd (by omega))) rfl ?_ | refine vc_y (y_arith _ rfl (wrap64 (by omega) (by omega))) rfl ?_ | refine vp ?_
         refine vp ?_
         refine vc_nil ?_
         refine vc_then ?_
         first | exact vc_again (x := (i, none)) (i + 1, some x) ⟨hi2, by rw [hch2, hst]⟩ (by show C.srcs.length - (i + 1) < C.srcs.length - i; omega) ⟨rfl, rfl, rfl, rfl, rfl, rfl, rfl, trivial⟩ (ent_pick [7, 7, 2, 4, 2, 2] rfl) | exact vc_again (x := (i, some y)) (i + 1, some x) ⟨hi2, by rw [hch2, hst]⟩ (by show C.srcs.length - (i + 1) < C.srcs.length - i; omega) ⟨rfl, rfl, rfl, rfl, rfl, rfl, rfl, trivial⟩ (ent_pick [7, 7, 2, 4, 2, 2] rfl) | exact vc_again (x := (i, some y)) (i + 1, some y) ⟨hi2, by rw [hch2, hst]⟩ (by show C.srcs.length - (i + 1) < C.srcs.length - i; omega) ⟨rfl, rfl, rfl, rfl, rfl, rfl, rfl, trivial⟩ (ent_pick [7, 7, 2, 4, 2, 2] rfl) | exact vc_again (x := (i, best)) (i + 1, best) ⟨hi2, by rw [hch2, hst]⟩ (by show C.srcs.length - (i + 1) < C.srcs.length - i; omega) ⟨rfl, rfl, rfl, rfl, rfl, rfl, rfl, trivial⟩ (ent_pick [7, 7, 2, 4, 2, 2] rfl)
        ·skip
         have hst : rowStep (some y) (some x) = some y := by simp only [rowStep]; rw [if_neg (fun h0 => c54 ((less_iff x y).2 h0))]
         refine vc_skip ?_
         refine vc_inNormal ?_
         refine vc_then ?_
         refine vc_region ?_
         first | refine vc_y (y_arith _ rfl (wrapNadd (by omega))) rfl ?_ | refine vc_y (y_arith _ rfl (wrap64 (by omega) (by omega))) rfl ?_ | refine vp ?_
         refine vp ?_
         refine vc_nil ?_
         refine vc_then ?_
         first | exact vc_again (x := (i, none)) (i + 1, some x) ⟨hi2, by rw [hch2, hst]⟩ (by show C.srcs.length - (i + 1) < C.srcs.length - i; omega) ⟨rfl, rfl, rfl, rfl, rfl, rfl, rfl, trivial⟩ (ent_pick [7, 7, 2, 4, 2, 2] rfl) | exact vc_again (x := (i, some y)) (i + 1, some x) ⟨hi2, by rw [hch2, hst]⟩ (by show C.srcs.length - (i + 1) < C.srcs.length - i; omega) ⟨rfl, rfl, rfl, rfl, rfl, rfl, rfl, trivial⟩ (ent_pick [7, 7, 2, 4, 2, 2] rfl) | exact vc_again (x := (i, some y)) (i + 1, some y) ⟨hi2, by rw [hch2, hst]⟩ (by show C.srcs.length - (i + 1) < C.srcs.length - i; omega) ⟨rfl, rfl, rfl, rfl, rfl, rfl, rfl, trivial⟩ (ent_pick [7, 7, 2, 4, 2, 2] rfl) | exact vc_again (x := (i, best)) (i + 1, best) ⟨hi2, by rw [hch2, hst]⟩ (by show C.srcs.length - (i + 1) < C.srcs.length - i; omega) ⟨rfl, rfl, rfl, rfl, rfl, rfl, rfl, trivial⟩ (ent_pick [7, 7, 2, 4, 2, 2] rfl)
       exact vo_nil
      exact vo_nil
     exact vo_nil
    exact vo_nil
  ·skip
   have hx : seekC C C.srcs[i] own mu (Q C.srcs[i]) (fromC C C.srcs[i]).1 (fromC C C.srcs[i]).2 = none := by
    cases h0 : seekC C C.srcs[i] own mu (Q C.srcs[i]) (fromC C C.srcs[i]).1 (fromC C C.srcs[i]).2 with
    | none => rfl
    | some x => rw [h0] at c36; cases c36
   have hst : rowStep best (seekC C C.srcs[i] own mu (Q C.srcs[i]) (fromC C C.srcs[i]).1 (fromC C C.srcs[i]).2) = best := by rw [hx]; rfl
   refine sk 2 36 ?_
   refine sk 3 36 ?_
   refine sk 4 36 ?_
   refine sku 5 39 ?_
   refine sku 6 39 ?_
   refine sku 7 39 ?_
   refine sku 8 39 ?_
   refine sku 9 39 ?_
   refine sku 10 39 ?_
   refine sku 11 39 ?_
   refine sku 12 39 ?_
   refine sku 13 39 ?_
   refine sku 14 39 ?_
   refine sku 15 39 ?_
   refine sku 16 39 ?_
   refine sku 17 39 ?_
   refine sk 18 36 ?_
   refine tpp 19 ?_
   refine va_done (by kernel_rfl) ?_
   refine vc_then ?_
   refine vc_condF rfl ?_
   refine vc_skip ?_
   refine vc_inNormal ?_
   refine vc_then ?_
   refine vc_region ?_
   first | refine vc_y (y_arith _ rfl (wrapNadd (by omega))) rfl ?_ | refine vc_y (y_arith _ rfl (wrap64 (by omega) (by omega))) rfl ?_ | refine vp ?_
   refine vp ?_
   refine vc_nil ?_
   refine vc_then ?_
   first | exact vc_again (x := (i, none)) (i + 1, some x) ⟨hi2, by rw [hch2, hst]⟩ (by show C.srcs.length - (i + 1) < C.srcs.length - i; omega) ⟨rfl, rfl, rfl, rfl, rfl, rfl, rfl, trivial⟩ (ent_pick [6, 6, 1, 3, 1, 1] rfl) | exact vc_again (x := (i, some y)) (i + 1, some x) ⟨hi2, by rw [hch2, hst]⟩ (by show C.srcs.length - (i + 1) < C.srcs.length - i; omega) ⟨rfl, rfl, rfl, rfl, rfl, rfl, rfl, trivial⟩ (ent_pick [6, 6, 1, 3, 1, 1] rfl) | exact vc_again (x := (i, some y)) (i + 1, some y) ⟨hi2, by rw [hch2, hst]⟩ (by show C.srcs.length - (i + 1) < C.srcs.length - i; omega) ⟨rfl, rfl, rfl, rfl, rfl, rfl, rfl, trivial⟩ (ent_pick [6, 6, 1, 3, 1, 1] rfl) | exact vc_again (x := (i, best)) (i + 1, best) ⟨hi2, by rw [hch2, hst]⟩ (by show C.srcs.length - (i + 1) < C.srcs.length - i; omega) ⟨rfl, rfl, rfl, rfl, rfl, rfl, rfl, trivial⟩ (ent_pick [6, 6, 1, 3, 1, 1] rfl)
 ·skip
  obtain rfl : i = C.srcs.length := by omega
  rw [List.drop_length] at hch
  have hfin : rowC C own mu Q = best := hch
  refine vc_exit ?_
  refine vc_thenExit ?_
  refine vc_thenExit ?_
  refine vc_inExit ?_
  refine vc_then ?_
  refine vc_seq ?_
  refine vc_region ?_
  refine vc_y (y_loadA 0 rfl (cs := [_, _, _, _, _]) ag_158 rfl (Pts.visA rfl)) rfl ?_
  refine vp ?_
  refine vc_storeP 1 rfl [_, _, _, _, _] [_, _, _, _, _] rfl rfl rfl sz_158 rfl rfl rfl ?_
  refine vp ?_
  refine vc_nil ?_
  refine vc_then ?_
  refine vc_ret ?_
  exact vc_endR Tryz.results105 (resL_cons (res_a 1 rfl (cs := [_, _, _, _, _]) ag_158 rfl (Pts.visA rfl)) (resL_cons (res_t rfl) (resL_nil))) _ (ent_pick [2, 2, 2, 2] rfl) ⟨by rw [hfin]; rfl, rfl⟩
theorem step_nil (n : Int) : Does Tryz.prog 42 [.pointer none, .int .i64 n] [] (fun v l => v = .tuple #[nilS.v, .bool false, .int .i64 2] ∧ l = []) := by
 refine spec_of Tryz.func42 rfl Tryz.ntmps42 Tryz.results42 _ (by simp) fun ι F => ?_
 refine vc_seq ?_
 refine vc_region ?_
 iterate 3 refine vp ?_
 refine vc_nil ?_
 refine vc_then ?_
 refine vc_seq ?_
 refine vc_block ?_
 refine vc_seq ?_
 refine vc_region ?_
 refine vp ?_
 refine vc_y (y_eqNil ep_76 rfl rfl) rfl ?_
 refine vp ?_
 refine vc_nil ?_
 refine vc_then ?_
 refine vc_condT rfl ?_
 refine vc_seq ?_
 refine vc_region ?_
 iterate 3 refine vp ?_
 refine vc_nil ?_
 refine vc_then ?_
 refine vc_ret ?_
 refine vc_inRet ?_
 refine vc_thenRet ?_
 exact vc_end3 Tryz.results42 rfl rfl rfl _ (ent_pick [] rfl) ⟨rfl, rfl⟩
theorem step_arg {b : Nat} {C : Cu} {hl : SH} {n : Int} (hn : n < 1) : Does Tryz.prog 42 [.pointer (some ⟨b, 0, none⟩), .int .i64 n] (CuO b C hl) (fun v l => v = .tuple #[nilS.v, .bool false, .int .i64 1] ∧ l = CuO b C hl) := by
 refine spec_of Tryz.func42 rfl Tryz.ntmps42 Tryz.results42 _ (by simp) fun ι F => ?_
 refine vc_seq ?_
 refine vc_region ?_
 iterate 3 refine vp ?_
 refine vc_nil ?_
 refine vc_then ?_
 refine vc_seq ?_
 refine vc_block ?_
 refine vc_seq ?_
 refine vc_region ?_
 refine vp ?_
 refine vc_y (y_eqNil ep_76 rfl rfl) rfl ?_
 refine vp ?_
 refine vc_nil ?_
 refine vc_then ?_
 refine vc_condF rfl ?_
 refine vc_seq ?_
 refine vc_region ?_
 iterate 3 refine vp ?_
 refine vc_nil ?_
 refine vc_then ?_
 first | refine vc_condP rfl (fun c13 => ?_) (fun c13 => ?_) | refine vc_condN rfl (fun c13 => ?_) (fun c13 => ?_) | refine vc_cond rfl (fun c13 => ?_) (fun c13 => ?_)
 ·skip
  refine vc_seq ?_
  refine vc_region ?_
  iterate 3 refine vp ?_
  refine vc_nil ?_
  refine vc_then ?_
  refine vc_ret ?_
  refine vc_inRet ?_
  refine vc_thenRet ?_
  exact vc_end3 Tryz.results42 rfl rfl rfl _ (ent_pick [0, 0] rfl) ⟨rfl, rfl⟩
 ·skip
  exact absurd hn c13
theorem step_spec {b : Nat} {C : Cu} {hl : SH} {V W : HP} {own : Qw} (hO : OwnOk V C.own own) {Q : SrcV → Qr} (hS : ∀ s ∈ C.srcs, SrcOk W s (Q s)) {mu : ByteArray → Bool → Nat} (hM : OwnMu own mu) (ok : C.ok) {n : Int} (hn : 1 ≤ n) (hn2 : n ≤ 9223372036854775807) : Does Tryz.prog 42 [.pointer (some ⟨b, 0, none⟩), .int .i64 n] (CuO b C hl ++ [V, W]) (fun v l => ∃ hr, v = .tuple #[hr.v, .bool (stepC own mu Q n.toNat C).2.done, .int .i64 0] ∧ l = Sl eRow hr (stepC own mu Q n.toNat C).1 :: CuP b (stepC own mu Q n.toNat C).2 hl :: Sl eSrc hl C.srcs :: [V, W]) := by
 refine spec_of Tryz.func42 rfl Tryz.ntmps42 Tryz.results42 _ (by simp) fun ι F => ?_
 refine vc_seq ?_
 refine vc_region ?_
 iterate 3 refine vp ?_
 refine vc_nil ?_
 refine vc_then ?_
 refine vc_seq ?_
 refine vc_block ?_
 refine vc_seq ?_
 refine vc_region ?_
 refine vp ?_
 refine vc_y (y_eqNil ep_76 rfl rfl) rfl ?_
 refine vp ?_
 refine vc_nil ?_
 refine vc_then ?_
 refine vc_condF rfl ?_
 refine vc_seq ?_
 refine vc_region ?_
 iterate 3 refine vp ?_
 refine vc_nil ?_
 refine vc_then ?_
 first | refine vc_condP rfl (fun c13 => ?_) (fun c13 => ?_) | refine vc_condN rfl (fun c13 => ?_) (fun c13 => ?_) | refine vc_cond rfl (fun c13 => ?_) (fun c13 => ?_)
 ·skip
  exact absurd c13 (by omega)
 ·skip
  refine vc_skip ?_
  refine vc_inNormal ?_
  refine vc_then ?_
  refine vc_seq ?_
  refine vc_region ?_
  refine vc_ent (l' := Sl eRow nilS [] :: _) sl_new ?_
  refine vp ?_
  refine vc_nil ?_
  refine vc_then ?_
  refine vc_seq ?_
  refine vc_block ?_
  refine vc_loop (α := SH × List RowT × Cu) (fun xq_ => match xq_ with | (hr, rows, D) => [(0, .pointer (some ⟨b, 0, none⟩)), (1, .int .i64 n), (7, hr.v)]) (fun xq_ => match xq_ with | (hr, rows, D) => Sl eRow hr rows :: CuP b D hl :: Sl eSrc hl C.srcs :: [V, W]) (fun xq_ => match xq_ with | (hr, rows, D) => muD D) (fun xq_ => match xq_ with | (hr, rows, D) => D.ok ∧ D.srcs = C.srcs ∧ D.own = C.own ∧ (rows.length : Int) ≤ n ∧ (rows.length : Int) ≤ D.told ∧ stepC own mu Q n.toNat C = (rows ++ (stepC own mu Q (n.toNat - rows.length) D).1, (stepC own mu Q (n.toNat - rows.length) D).2)) (nilS, [], C) ⟨ok, rfl, rfl, by simp; omega, by simp; exact ok.t0, by simp⟩ ⟨rfl, rfl, rfl, trivial⟩ (ent_pick [0, 0, 0, 0, 0] rfl) ?_
  rintro ⟨hr, rows, D⟩ ⟨okD, hD1, hD2, hrn, hrt, hst⟩
  show VC _ _ _ _ [(0, .pointer (some ⟨b, 0, none⟩)), (1, .int .i64 n), (7, hr.v)] (Sl eRow hr rows :: CuP b D hl :: Sl eSrc hl C.srcs :: [V, W])
  refine vc_see 0 rfl (Sl.vis.imp fun w r => r.len) (fun hrl => ?_)
  obtain ⟨m1, m2, m3, m4, m5, m6⟩ := id okD
  refine vc_seq ?_
  refine vc_seq ?_
  refine vc_region ?_
  refine vp ?_
  refine vp ?_
  refine vc_y (y_fieldP fl_163_6 12 rfl rfl) rfl ?_
  refine vc_y (y_load1 1 rfl one_4 rfl (Pts.vis rfl)) rfl ?_
  refine vp ?_
  refine vp ?_
  first | refine vc_splitP 21 rfl (fun c21 => ?_) (fun c21 => ?_) | refine vc_splitN 21 rfl (fun c21 => ?_) (fun c21 => ?_) | refine vc_split 21 rfl (fun c21 => ?_) (fun c21 => ?_)
  ·skip
   have hdn : D.done = false := notT c21
   refine vc_guardT 21 rfl rfl ?_
   refine vp ?_
   refine vc_guardT 21 rfl rfl ?_
   refine vc_y (y_len Tryz.underlying77 rfl hrl) rfl ?_
   refine vc_guardT 21 rfl rfl ?_
   refine vp ?_
   refine vc_guardT 21 rfl rfl ?_
   refine vp ?_
   refine vp ?_
   refine vc_nil ?_
   refine vc_then ?_
   first | refine vc_condP rfl (fun c26 => ?_) (fun c26 => ?_) | refine vc_condN rfl (fun c26 => ?_) (fun c26 => ?_) | refine vc_cond rfl (fun c26 => ?_) (fun c26 => ?_)
   ·skip
    have hlt : (rows.length : Int) < n := c26
    refine vc_skip ?_
    refine vc_then ?_
    refine vc_block ?_
    refine vc_seq ?_
    refine vc_region ?_
    refine vp ?_
    refine vc_re 2 rfl (show Sl eSrc hl C.srcs = Sl eSrc hl D.srcs by rw [hD1]) ?_
    refine vc_callv ca_105 (us := []) (vs := []) rfl [_] rfl [1, 1, 1, 1] rfl (row_spec (C := D) (hl := hl) (V := V) (W := W) (hD2 ▸ hO) (Q := Q) (hD1 ▸ hS) hM (by rw [hD1]; exact ok.sl)) rfl ?_
    rintro _ _ ⟨rfl, rfl⟩
    refine vc_re 1 rfl (show Sl eSrc hl D.srcs = Sl eSrc hl C.srcs by rw [hD1]) ?_
    iterate 3 refine vp ?_
    refine vc_alloc [.int .i64 0, .string ⟨#[]⟩, .bool false, .string ⟨#[]⟩, .int .u64 0] ze_158 rfl rfl (fun b8 => ?_)
    refine vc_storeP 0 rfl [_, _, _, _, _] [_, _, _, _, _] rfl rfl rfl sz_158 rfl rfl rfl ?_
    refine vp ?_
    refine vc_nil ?_
    refine vc_then ?_
    refine vc_seq ?_
    refine vc_seq ?_
    refine vc_region ?_
    refine vp ?_
    refine vc_nil ?_
    refine vc_then ?_
    first | refine vc_condP rfl (fun c32 => ?_) (fun c32 => ?_) | refine vc_condN rfl (fun c32 => ?_) (fun c32 => ?_) | refine vc_cond rfl (fun c32 => ?_) (fun c32 => ?_)
    ·skip
     obtain ⟨x, hx⟩ : ∃ x, rowC D own mu Q = some x := by
      cases h0 : rowC D own mu Q with
      | none => rw [h0] at c32; cases c32
      | some x => exact ⟨x, rfl⟩
     rw [hx]
     have hdt := m5 hdn
     refine vc_seq ?_
     refine vc_region ?_
     refine vp ?_
     refine vc_y (y_loadA 0 rfl (cs := [_, _, _, _, _]) ag_158 rfl (Pts.visA rfl)) rfl ?_
     refine vc_buildSlice (E := eRow) [(0, _)] [x] rfl rfl (bs_77_1 _ _ _ _ _ ) rfl (fun h35 => ?_)
     refine vc_append 6 rfl 0 rfl (Sl.vis) el_77_eRow Tryz.underlying77 rfl rfl (by simp; omega) (by simp; omega) rfl (fun h36 => ?_)
     refine vp ?_
     refine vc_nil ?_
     refine vc_then ?_
     refine vc_seq ?_
     refine vc_region ?_
     refine vp ?_
     refine vc_y (y_loadA 1 rfl (cs := [_, _, _, _, _]) ag_158 rfl (Pts.visA rfl)) rfl ?_
     refine vp ?_
     refine vc_y (y_fieldP fl_163_4 6 rfl rfl) rfl ?_
     refine vc_storeP 2 rfl [_, _, _, _, _] [_, _, _, _, _, _, _, _, _, _, _, _, _] rfl rfl rfl sz_158 rfl rfl rfl ?_
     refine vc_nil ?_
     refine vc_then ?_
     refine vc_region ?_
     refine vp ?_
     refine vp ?_
     refine vc_y (y_fieldP fl_163_5 11 rfl rfl) rfl ?_
     refine vc_y (y_load1 2 rfl one_3 rfl (Pts.vis rfl)) rfl ?_
     first | refine vc_y (y_arith _ rfl (wrapNadd (by omega))) rfl ?_ | refine vc_y (y_arith _ rfl (wrap64 (by omega) (by omega))) rfl ?_ | refine vp ?_
     refine vp ?_
     refine vc_y (y_fieldP fl_163_5 11 rfl rfl) rfl ?_
     refine vc_storeP 2 rfl [_] [_, _, _, _, _, _, _, _, _, _, _, _, _] rfl rfl rfl sz_3 rfl rfl rfl ?_
     refine vc_nil ?_
     refine vc_then ?_
     refine vc_draw (by kernel_rfl) _ (some 17) [2] rfl ?_
     refine tpp 0 ?_
     refine tpp 1 ?_
     refine tpp 2 ?_
     refine tpp 3 ?_
     refine tgp 4 51 ?_
     refine tgp 5 51 ?_
     refine tg 6 51 rfl (by exact y_fieldP fl_163_5 11 rfl rfl) ?_
     refine tkg 7 51 rfl (by exact y_load1 0 rfl one_3 rfl (Pts.vis rfl)) ?_
     refine tgp 8 51 ?_
     refine tgp 9 51 ?_
     refine tg 10 51 rfl (by exact y_fieldP fl_163_1 1 rfl rfl) ?_
     refine tg 11 51 rfl (by exact y_fieldP fl_74_2 3 rfl rfl) ?_
     refine tkg 12 51 rfl (by exact y_load1 0 rfl one_3 rfl (Pts.vis rfl)) ?_
     refine tgp 13 51 ?_
     refine tpp 14 ?_
     refine tpp 15 ?_
     refine tp 16 rfl (by exact y_fieldP fl_163_6 12 rfl rfl) ?_
     refine va_ready [17] (by kernel_rfl) rfl ?_
     refine vo_cons rfl (fun hC0 => ?_) ?_
     ·skip
      refine vc_storeP 2 rfl [_] [_, _, _, _, _, _, _, _, _, _, _, _, _] rfl rfl rfl sz_4 rfl rfl rfl ?_
      refine vc_nil ?_
      refine vc_then ?_
      refine va_gone hC0 (by kernel_rfl) ?_
      clear hC0
      refine va_done (by kernel_rfl) ?_
      refine vc_inNormal ?_
      refine vc_then ?_
      first | exact vc_again (x := (hr, rows, D)) (h36, rows ++ [x], tellC D x) ⟨okD.tell hdn x, hD1, hD2, by simp; omega, by simp [tellC]; omega, by rw [hst, step_some (by omega) hdn hx]; simp [Nat.sub_sub]⟩ (muD_tell hdn (m5 hdn) m2) ⟨rfl, rfl, rfl, trivial⟩ (ent_pick [6, 2, 2, 2, 2] rfl) | exact vc_again (x := (hr, rows, D)) (hr, rows, endC D) ⟨okD.fin, hD1, hD2, hrn, hrt, by rw [hst, step_none (by omega) hdn hx, step_done (by rfl)]⟩ (muD_end hdn) ⟨rfl, rfl, rfl, trivial⟩ (ent_pick [6, 2, 2, 2, 2] rfl)
     exact vo_nil
    ·skip
     have hx : rowC D own mu Q = none := by
      cases h0 : rowC D own mu Q with
      | none => rfl
      | some x => rw [h0] at c32; cases c32
     rw [hx]
     refine vc_skip ?_
     refine vc_then ?_
     refine vc_draw (by kernel_rfl) _ (some 17) [1] rfl ?_
     refine tpp 0 ?_
     refine tpp 1 ?_
     refine tpp 2 ?_
     refine tpp 3 ?_
     refine sk 4 51 ?_
     refine sk 5 51 ?_
     refine sk 6 51 ?_
     refine sk 7 51 ?_
     refine sk 8 51 ?_
     refine sk 9 51 ?_
     refine sk 10 51 ?_
     refine sk 11 51 ?_
     refine sk 12 51 ?_
     refine sk 13 51 ?_
     refine tpp 14 ?_
     refine tpp 15 ?_
     refine tp 16 rfl (by exact y_fieldP fl_163_6 12 rfl rfl) ?_
     refine va_ready [17] (by kernel_rfl) rfl ?_
     refine vo_cons rfl (fun hC0 => ?_) ?_
     ·skip
      refine vc_storeP 1 rfl [_] [_, _, _, _, _, _, _, _, _, _, _, _, _] rfl rfl rfl sz_4 rfl rfl rfl ?_
      refine vc_nil ?_
      refine vc_then ?_
      refine va_gone hC0 (by kernel_rfl) ?_
      clear hC0
      refine va_done (by kernel_rfl) ?_
      refine vc_inNormal ?_
      refine vc_then ?_
      first | exact vc_again (x := (hr, rows, D)) (h36, rows ++ [x], tellC D x) ⟨okD.tell hdn x, hD1, hD2, by simp; omega, by simp [tellC]; omega, by rw [hst, step_some (by omega) hdn hx]; simp [Nat.sub_sub]⟩ (muD_tell hdn (m5 hdn) m2) ⟨rfl, rfl, rfl, trivial⟩ (ent_pick [5, 1, 1, 1, 1] rfl) | exact vc_again (x := (hr, rows, D)) (hr, rows, endC D) ⟨okD.fin, hD1, hD2, hrn, hrt, by rw [hst, step_none (by omega) hdn hx, step_done (by rfl)]⟩ (muD_end hdn) ⟨rfl, rfl, rfl, trivial⟩ (ent_pick [5, 1, 1, 1, 1] rfl)
     exact vo_nil
   ·skip
    have hlt : ¬ (rows.length : Int) < n := c26
    have hfin : stepC own mu Q n.toNat C = (rows, D) := by rw [hst, show n.toNat - rows.length = 0 by omega]; simp [stepC]
    refine vc_exit ?_
    refine vc_thenExit ?_
    refine vc_thenExit ?_
    refine vc_inExit ?_
    refine vc_then ?_
    refine vc_seq ?_
    refine vc_draw (by kernel_rfl) _ none [1] rfl ?_
    refine tpp 0 ?_
    refine tpp 1 ?_
    refine tpp 2 ?_
    refine tp 3 rfl (by exact y_fieldP fl_163_6 12 rfl rfl) ?_
    refine tk 4 rfl (by exact y_load1 0 rfl one_4 rfl (Pts.vis rfl)) ?_
    refine tpp 5 ?_
    refine tpp 6 ?_
    refine tpp 7 ?_
    refine va_done (by kernel_rfl) ?_
    refine vc_then ?_
    refine vc_ret ?_
    exact vc_end3 Tryz.results42 rfl rfl rfl _ (ent_pick [0, 0, 0, 0, 0] rfl) ⟨hr, by rw [hfin], by rw [hfin]⟩
  ·skip
   have hdn : D.done = true := notF c21
   have hfin : stepC own mu Q n.toNat C = (rows, D) := by rw [hst, step_done hdn]; simp
   refine vc_guardF 21 rfl rfl rfl rfl ?_
   refine vc_guardF 21 rfl rfl rfl rfl ?_
   refine vc_guardF 21 rfl rfl rfl rfl ?_
   refine vc_guardF 21 rfl rfl rfl rfl ?_
   refine vp ?_
   refine vc_nil ?_
   refine vc_then ?_
   refine vc_condF rfl ?_
   refine vc_exit ?_
   refine vc_thenExit ?_
   refine vc_thenExit ?_
   refine vc_inExit ?_
   refine vc_then ?_
   refine vc_seq ?_
   refine vc_draw (by kernel_rfl) _ none [1] rfl ?_
   refine tpp 0 ?_
   refine tpp 1 ?_
   refine tpp 2 ?_
   refine tp 3 rfl (by exact y_fieldP fl_163_6 12 rfl rfl) ?_
   refine tk 4 rfl (by exact y_load1 0 rfl one_4 rfl (Pts.vis rfl)) ?_
   refine tpp 5 ?_
   refine tpp 6 ?_
   refine tpp 7 ?_
   refine va_done (by kernel_rfl) ?_
   refine vc_then ?_
   refine vc_ret ?_
   exact vc_end3 Tryz.results42 rfl rfl rfl _ (ent_pick [0, 0, 0, 0, 0] rfl) ⟨hr, by rw [hfin], by rw [hfin]⟩
end Go.Proofs.YtcpbibdbahfgaaaGreat
