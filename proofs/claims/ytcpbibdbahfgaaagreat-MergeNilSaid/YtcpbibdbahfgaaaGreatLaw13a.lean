/-
 The example of layer 13.
-/
import Derived.Test.YtcpbibdbahfgaaaGreatMerge2
import Derived.Test.YtcpbibdbahfgaaaGreatRef1
set_option linter.unusedVariables false
set_option linter.unusedSimpArgs false
set_option autoImplicit false
set_option maxHeartbeats 4000000
namespace Go.Proofs.YtcpbibdbahfgaaaGreat
open Go.Eng
namespace FLaw13a
theorem ze_97 : (Tryz.prog.info? 97).map (·.zero) = some (some (.agg #[.string ⟨#[]⟩, .bool false, .bool false, .string ⟨#[]⟩, .int .u64 0])) := by kernel_rfl
theorem ep_94 : Tryz.prog.underlying 94 = some (.pointer (Tryz.prog.pointee 94)) := by kernel_rfl
theorem bu_97_n   (w : World) : (Instr.build 97 #[]).run Tryz.prog w = .ok (.agg #[.string ⟨#[]⟩, .bool false, .bool false, .string ⟨#[]⟩, .int .u64 0]) w := by
 have hz := @ze_97
 exact Go.Eng.run_build (pl := [(0, 1), (1, 1), (2, 3)]) hz Tryz.underlying97 (by kernel_rfl) rfl (by simp [Instr.fill, cells_agg]) w
theorem sz_97 : (Tryz.prog.info? 97).map (·.size) = some 5 := by kernel_rfl
theorem ag_97 : TyAgg Tryz.prog 97 5 := ⟨⟨_, Tryz.underlying97, rfl⟩, by kernel_rfl⟩
theorem ze_24 : (Tryz.prog.info? 24).map (·.zero) = some (some (.agg #[.slice none 0 0, .int .i64 0, .int .i64 0, .int .i64 0])) := by kernel_rfl
theorem bu_24_1_2_3 (v1 : Value) (v2 : Value) (v3 : Value) (h1 : v1.cells = #[v1]) (h2 : v2.cells = #[v2]) (h3 : v3.cells = #[v3]) (w : World) : (Instr.build 24 #[(1, v1), (2, v2), (3, v3)]).run Tryz.prog w = .ok (.agg #[.slice none 0 0, v1, v2, v3]) w := by
 have hz := @ze_24
 exact Go.Eng.run_build (pl := [(0, 1), (1, 1), (2, 1), (3, 1)]) hz Tryz.underlying24 (by kernel_rfl) rfl (by simp [Instr.fill, h1, h2, h3, cells_agg]) w
theorem sz_24 : (Tryz.prog.info? 24).map (·.size) = some 4 := by kernel_rfl
theorem ag_24 : TyAgg Tryz.prog 24 4 := ⟨⟨_, Tryz.underlying24, rfl⟩, by kernel_rfl⟩
theorem ca_43 : Callable Tryz.prog 43 := ⟨_, _, Tryz.func43, rfl, rfl⟩
theorem ca_11 : Callable Tryz.prog 11 := ⟨_, _, Tryz.func11, rfl, rfl⟩
theorem bu_97_0 (v0 : Value) (h0 : v0.cells = #[v0]) (w : World) : (Instr.build 97 #[(0, v0)]).run Tryz.prog w = .ok (.agg #[v0, .bool false, .bool false, .string ⟨#[]⟩, .int .u64 0]) w := by
 have hz := @ze_97
 exact Go.Eng.run_build (pl := [(0, 1), (1, 1), (2, 3)]) hz Tryz.underlying97 (by kernel_rfl) rfl (by simp [Instr.fill, h0, cells_agg]) w
theorem bs_35_2 (v0_0 v0_1 v0_2 v0_3 v0_4 : Value) (v1_0 v1_1 v1_2 v1_3 v1_4 : Value)  (w : World) : (Instr.buildSlice 35 2 #[(0, .agg #[v0_0, v0_1, v0_2, v0_3, v0_4]), (1, .agg #[v1_0, v1_1, v1_2, v1_3, v1_4])]).run Tryz.prog w = .ok (.slice (some ⟨w.heap.size, 0, none⟩) 2 2) { w with heap := w.heap.push (.cells #[v0_0, v0_1, v0_2, v0_3, v0_4, v1_0, v1_1, v1_2, v1_3, v1_4] 97 (0, 0)) } :=
 Go.Eng.run_buildSlice Tryz.underlying35 sz_97 ze_97 (by decide) (by rw [show Array.range (2 * 5) = #[0, 1, 2, 3, 4, 5, 6, 7, 8, 9] from by decide]; simp [Instr.fill, cells_agg]) w
theorem ca_15 : Callable Tryz.prog 15 := ⟨_, _, Tryz.func15, rfl, rfl⟩
theorem ze_82 : (Tryz.prog.info? 82).map (·.zero) = some (some (.agg #[.pointer none, .int .i64 0, .int .i64 0])) := by kernel_rfl
theorem bu_82_0_1 (v0 : Value) (v1 : Value) (h0 : v0.cells = #[v0]) (h1 : v1.cells = #[v1]) (w : World) : (Instr.build 82 #[(0, v0), (1, v1)]).run Tryz.prog w = .ok (.agg #[v0, v1, .int .i64 0]) w := by
 have hz := @ze_82
 exact Go.Eng.run_build (pl := [(0, 1), (1, 1), (2, 1)]) hz Tryz.underlying82 (by kernel_rfl) rfl (by simp [Instr.fill, h0, h1, cells_agg]) w
theorem bu_82_0_1_2 (v0 : Value) (v1 : Value) (v2 : Value) (h0 : v0.cells = #[v0]) (h1 : v1.cells = #[v1]) (h2 : v2.cells = #[v2]) (w : World) : (Instr.build 82 #[(0, v0), (1, v1), (2, v2)]).run Tryz.prog w = .ok (.agg #[v0, v1, v2]) w := by
 have hz := @ze_82
 exact Go.Eng.run_build (pl := [(0, 1), (1, 1), (2, 1)]) hz Tryz.underlying82 (by kernel_rfl) rfl (by simp [Instr.fill, h0, h1, h2, cells_agg]) w
theorem sz_82 : (Tryz.prog.info? 82).map (·.size) = some 3 := by kernel_rfl
theorem bs_80_2 (v0_0 v0_1 v0_2 : Value) (v1_0 v1_1 v1_2 : Value)  (w : World) : (Instr.buildSlice 80 2 #[(0, .agg #[v0_0, v0_1, v0_2]), (1, .agg #[v1_0, v1_1, v1_2])]).run Tryz.prog w = .ok (.slice (some ⟨w.heap.size, 0, none⟩) 2 2) { w with heap := w.heap.push (.cells #[v0_0, v0_1, v0_2, v1_0, v1_1, v1_2] 82 (0, 0)) } :=
 Go.Eng.run_buildSlice Tryz.underlying80 sz_82 ze_82 (by decide) (by rw [show Array.range (2 * 3) = #[0, 1, 2, 3, 4, 5] from by decide]; simp [Instr.fill, cells_agg]) w
theorem ze_74 : (Tryz.prog.info? 74).map (·.zero) = some (some (.agg #[.string ⟨#[]⟩, .string ⟨#[]⟩, .int .i64 0])) := by kernel_rfl
theorem bu_74_2 (v2 : Value) (h2 : v2.cells = #[v2]) (w : World) : (Instr.build 74 #[(2, v2)]).run Tryz.prog w = .ok (.agg #[.string ⟨#[]⟩, .string ⟨#[]⟩, v2]) w := by
 have hz := @ze_74
 exact Go.Eng.run_build (pl := [(0, 1), (1, 1), (2, 1)]) hz Tryz.underlying74 (by kernel_rfl) rfl (by simp [Instr.fill, h2, cells_agg]) w
theorem ca_44 : Callable Tryz.prog 44 := ⟨_, _, Tryz.func44, rfl, rfl⟩
theorem ca_42 : Callable Tryz.prog 42 := ⟨_, _, Tryz.func42, rfl, rfl⟩
theorem sl_77 : TySl Tryz.prog 77 158 5 := ⟨Tryz.underlying77, by kernel_rfl⟩
theorem fl_158_0 : Fld Tryz.prog 158 0 0 := ⟨_, _, 0, Tryz.underlying158, rfl, rfl, by kernel_rfl⟩
theorem one_3 : TyOne Tryz.prog 3 := ⟨⟨_, Tryz.underlying3, rfl⟩, by kernel_rfl⟩
theorem fl_158_1 : Fld Tryz.prog 158 1 1 := ⟨_, _, 0, Tryz.underlying158, rfl, rfl, by kernel_rfl⟩
theorem one_9 : TyOne Tryz.prog 9 := ⟨⟨_, Tryz.underlying9, rfl⟩, by kernel_rfl⟩
end FLaw13a
open FLaw13a
theorem seek_nil (key : ByteArray) : Does Tryz.prog 202 [ptrV none, .string key] [emp] (fun v l => v = wrTup none ∧ l = [emp]) := by
 refine spec_of Tryz.func202 rfl Tryz.ntmps202 Tryz.results202 _ (by simp) fun ι F => ?_
 refine vc_seq ?_
 refine vc_region ?_
 refine vc_alloc [.string ⟨#[]⟩, .bool false, .bool false, .string ⟨#[]⟩, .int .u64 0] ze_97 rfl rfl (fun b4 => ?_)
 refine vp ?_
 refine vc_nil ?_
 refine vc_then ?_
 refine vc_seq ?_
 refine vc_seq ?_
 refine vc_region ?_
 refine vp ?_
 refine vc_y (y_eqNil ep_94 rfl rfl) rfl ?_
 refine vc_nil ?_
 refine vc_then ?_
 refine vc_condT rfl ?_
 refine vc_seq ?_
 refine vc_region ?_
 refine vc_y (y_build [] [_, _, _, _, _] rfl (bu_97_n  )) rfl ?_
 refine vc_storeP 0 rfl [_, _, _, _, _] [_, _, _, _, _] rfl rfl rfl sz_97 rfl rfl rfl ?_
 refine vp ?_
 refine vc_nil ?_
 refine vc_then ?_
 refine vc_ret ?_
 refine vc_thenRet ?_
 exact vc_endR Tryz.results202 (resL_cons (res_a 0 rfl (cs := [_, _, _, _, _]) ag_97 rfl (Pts.visA rfl)) (resL_cons (res_t rfl) (resL_nil))) _ (ent_pick [1] rfl) ⟨rfl, rfl⟩
theorem after_nil (key : ByteArray) : Does Tryz.prog 203 [ptrV none, .string key] [emp] (fun v l => v = wrTup none ∧ l = [emp]) := by
 refine spec_of Tryz.func203 rfl Tryz.ntmps203 Tryz.results203 _ (by simp) fun ι F => ?_
 refine vc_seq ?_
 refine vc_region ?_
 refine vc_alloc [.string ⟨#[]⟩, .bool false, .bool false, .string ⟨#[]⟩, .int .u64 0] ze_97 rfl rfl (fun b4 => ?_)
 refine vp ?_
 refine vc_nil ?_
 refine vc_then ?_
 refine vc_seq ?_
 refine vc_seq ?_
 refine vc_region ?_
 refine vp ?_
 refine vc_y (y_eqNil ep_94 rfl rfl) rfl ?_
 refine vc_nil ?_
 refine vc_then ?_
 refine vc_condT rfl ?_
 refine vc_seq ?_
 refine vc_region ?_
 refine vc_y (y_build [] [_, _, _, _, _] rfl (bu_97_n  )) rfl ?_
 refine vc_storeP 0 rfl [_, _, _, _, _] [_, _, _, _, _] rfl rfl rfl sz_97 rfl rfl rfl ?_
 refine vp ?_
 refine vc_nil ?_
 refine vc_then ?_
 refine vc_ret ?_
 refine vc_thenRet ?_
 exact vc_endR Tryz.results203 (resL_cons (res_a 0 rfl (cs := [_, _, _, _, _]) ag_97 rfl (Pts.visA rfl)) (resL_cons (res_t rfl) (resL_nil))) _ (ent_pick [1] rfl) ⟨rfl, rfl⟩
theorem own_nil0 : OwnOk emp none (fun _ _ => none) := ⟨seek_nil, after_nil⟩
theorem mu_nil0 : OwnMu (fun _ _ => none) (fun _ _ => 0) := ⟨fun _ _ _ h => by cases h⟩
theorem setting_right : setRight [] 16 100000 1000 = true := by kernel_rfl
def X13 : RmX := X0 [] 16 100000 1000 0
theorem X13_ok : X13.ok := X0_ok setting_right (by decide) (by decide)
def wk (c : UInt8) : Wr := ⟨⟨#[c]⟩, false, val0⟩
def XA : RmX := (commitX X13 [wk 97, wk 99] 1).2.2
def XB : RmX := (commitX X13 [wk 97, wk 98] 2).2.2
def MA : Mp := [(⟨#[97]⟩, [⟨1, false, val0⟩]), (⟨#[99]⟩, [⟨1, false, val0⟩])]
def MB : Mp := [(⟨#[97]⟩, [⟨1, false, val0⟩]), (⟨#[98]⟩, [⟨1, false, val0⟩])]
theorem XA_eq : XA = ⟨[], 16, 100000, 1000, ⟨16, 0, 1, [1]⟩, MA⟩ := by kernel_rfl
theorem XB_eq : XB = ⟨[], 16, 100000, 1000, ⟨16, 0, 1, [2]⟩, MB⟩ := by kernel_rfl
theorem pair_ok (k : UInt8) (s : Int) : PairOk ⟨16, 0, 1, [s]⟩ (⟨#[k]⟩, [⟨1, false, val0⟩]) := ⟨by show 1 ≤ 1; decide, by show 1 ≤ 32; decide, by kernel_rfl, by simp, by simp, by simp⟩
theorem XA_ok : XA.ok := by
 rw [XA_eq]
 refine ⟨by kernel_rfl, by decide, by decide, by decide, ⟨by decide, by decide, by decide, by decide, by decide, by decide, by decide, ⟨by simp, trivial⟩⟩, rfl, by decide, by decide, fun p hp => ?_, ?_, by decide⟩
 ·simp only [MA, List.mem_cons, List.not_mem_nil, or_false] at hp
  rcases hp with rfl | rfl <;> exact pair_ok _ _
 ·exact ⟨fun b hb => by simp [Eng.ks, MA] at hb; subst hb; kernel_rfl, by simp, trivial⟩
theorem XB_ok : XB.ok := by
 rw [XB_eq]
 refine ⟨by kernel_rfl, by decide, by decide, by decide, ⟨by decide, by decide, by decide, by decide, by decide, by decide, by decide, ⟨by simp, trivial⟩⟩, rfl, by decide, by decide, fun p hp => ?_, ?_, by decide⟩
 ·simp only [MB, List.mem_cons, List.not_mem_nil, or_false] at hp
  rcases hp with rfl | rfl <;> exact pair_ok _ _
 ·exact ⟨fun b hb => by simp [Eng.ks, MB] at hb; subst hb; kernel_rfl, by simp, trivial⟩
def Q13 : SrcV → Qr := fun s => fun k ab => if s.place = 0 then liveFrom XA.M k ab s.seq else liveFrom XB.M k ab s.seq
def srcs13 (a b : Nat) : List SrcV := [⟨some a, 1, 0⟩, ⟨some b, 1, 1⟩]
def cu13 (a b : Nat) : Cu := ⟨srcs13 a b, ⟨#[]⟩, ⟨#[]⟩, 9, none, -1, row0, 0, false⟩
def rowk (r : Int) (c : UInt8) : RowT := ⟨r, ⟨#[c]⟩, val0⟩
theorem step13 (a b : Nat) : stepC (fun _ _ => none) (fun _ _ => 0) Q13 (9 : Int).toNat (cu13 a b) = ([rowk 0 97, rowk 1 97, rowk 1 98, rowk 0 99], ⟨srcs13 a b, ⟨#[]⟩, ⟨#[]⟩, 9, none, -1, rowk 0 99, 4, true⟩) := by kernel_rfl
theorem cu13_ok (a b : Nat) : (cu13 a b).ok := ⟨by show (1 : Int) ≤ 9; decide, by show (9 : Int) ≤ 64; decide, by show (0 : Int) ≤ 0; decide, by show (0 : Int) ≤ 9; decide, fun _ => by show (0 : Int) < 9; decide, by simp [cu13, srcs13]⟩
theorem src13_ok (a b : Nat) : ∀ s ∈ (cu13 a b).srcs, SrcOk (seps [RoomC a XA, RoomC b XB]) s (Q13 s) := by
 intro s hs
 simp only [cu13, srcs13, List.mem_cons, List.not_mem_nil, or_false] at hs
 rcases hs with rfl | rfl
 ·exact ⟨a, rfl, fun key => Does.at (room_after XA_ok key (by show (1 : Int) ≤ _; decide)) 0 rfl, fun key => Does.at (room_seek XA_ok key (by show (1 : Int) ≤ _; decide)) 0 rfl⟩
 ·exact ⟨b, rfl, fun key => Does.at (room_after XB_ok key (by show (1 : Int) ≤ _; decide)) 1 rfl, fun key => Does.at (room_seek XB_ok key (by show (1 : Int) ≤ _; decide)) 1 rfl⟩
theorem vis_nil {α : Type} {E : Enc α} : Vis emp (Rd E nilS ([] : List α)) := fun _ _ _ => Rd.nil
theorem new13 : Does Tryz.prog 11 [.agg #[nilS.v, .int .i64 16, .int .i64 100000, .int .i64 1000]] [] (fun v l => ∃ b, v = verTup b ∧ l = [RoomC b X13]) :=
 Does.pre Ent.empL (Does.fin (new_ok (A := emp) vis_nil 16 100000 1000 setting_right) fun v l ⟨b, e, h⟩ => ⟨[RoomC b X13], h ▸ Ent.sep Ent.rfl Ent.right, b, e, rfl⟩)
theorem setting13 : Does Tryz.prog 43 [] [] (fun v l => v = .agg #[nilS.v, .int .i64 16, .int .i64 100000, .int .i64 1000] ∧ l = []) := by
 refine spec_of Tryz.func43 rfl Tryz.ntmps43 Tryz.results43 _ (by simp) fun ι F => ?_
 refine vc_seq ?_
 refine vc_region ?_
 refine vc_alloc [.slice none 0 0, .int .i64 0, .int .i64 0, .int .i64 0] ze_24 rfl rfl (fun b0 => ?_)
 refine vc_nil ?_
 refine vc_then ?_
 refine vc_seq ?_
 refine vc_region ?_
 refine vc_y (y_build [(1, _), (2, _), (3, _)] [_, _, _, _] rfl (bu_24_1_2_3 _ _ _ rfl rfl rfl)) rfl ?_
 refine vc_storeP 0 rfl [_, _, _, _] [_, _, _, _] rfl rfl rfl sz_24 rfl rfl rfl ?_
 refine vc_nil ?_
 refine vc_then ?_
 refine vc_ret ?_
 exact vc_endR Tryz.results43 (resL_cons (res_a 0 rfl (cs := [_, _, _, _]) ag_24 rfl (Pts.visA rfl)) (resL_nil)) _ (ent_pick [] rfl) ⟨rfl, rfl⟩
theorem awake13 : Does Tryz.prog 40 [] [] (fun v l => v = .bool true ∧ l = []) := by
 refine spec_of Tryz.func40 rfl Tryz.ntmps40 Tryz.results40 _ (by simp) fun ι F => ?_
 refine vc_seq ?_
 refine vc_region ?_
 refine vp ?_
 refine vc_nil ?_
 refine vc_then ?_
 refine vc_seq ?_
 refine vc_region ?_
 refine vc_callv ca_43 (us := []) (vs := []) rfl [] rfl [] rfl (setting13) rfl ?_
 rintro _ _ ⟨rfl, rfl⟩
 refine vc_callv ca_11 (us := []) (vs := []) rfl [_] rfl [] rfl (new13) rfl ?_
 rintro _ _ ⟨ba, rfl, rfl⟩
 iterate 5 refine vp ?_
 refine vc_nil ?_
 refine vc_then ?_
 refine vc_seq ?_
 refine vc_region ?_
 refine vc_callv ca_43 (us := []) (vs := []) rfl [] rfl [] rfl (setting13) rfl ?_
 rintro _ _ ⟨rfl, rfl⟩
 refine vc_callv ca_11 (us := []) (vs := []) rfl [_] rfl [] rfl (new13) rfl ?_
 rintro _ _ ⟨bb, rfl, rfl⟩
 iterate 5 refine vp ?_
 refine vc_nil ?_
 refine vc_then ?_
 refine vc_seq ?_
 refine vc_region ?_
 refine vp ?_
 refine vc_y (y_build [(0, _)] [_, _, _, _, _] rfl (bu_97_0 _ rfl)) rfl ?_
 refine vc_y (y_build [(0, _)] [_, _, _, _, _] rfl (bu_97_0 _ rfl)) rfl ?_
 refine vc_buildSlice (E := eWr) [(0, _), (1, _)] [wk 97, wk 99] rfl rfl (bs_35_2 _ _ _ _ _ _ _ _ _ _ ) rfl (fun h23 => ?_)
 refine vc_callv ca_15 (us := []) (vs := []) rfl [_, _, _] rfl [2, 0] rfl (room_commit X13_ok (ws := [wk 97, wk 99]) Sl.vis (by simp) 1 (by decide) (.inl (by decide))) rfl ?_
 rintro _ _ ⟨rfl, rfl⟩
 refine vc_nil ?_
 refine vc_then ?_
 refine vc_seq ?_
 refine vc_region ?_
 refine vp ?_
 refine vc_y (y_build [(0, _)] [_, _, _, _, _] rfl (bu_97_0 _ rfl)) rfl ?_
 refine vc_y (y_build [(0, _)] [_, _, _, _, _] rfl (bu_97_0 _ rfl)) rfl ?_
 refine vc_buildSlice (E := eWr) [(0, _), (1, _)] [wk 97, wk 98] rfl rfl (bs_35_2 _ _ _ _ _ _ _ _ _ _ ) rfl (fun h28 => ?_)
 refine vc_callv ca_15 (us := []) (vs := []) rfl [_, _, _] rfl [3, 0] rfl (room_commit X13_ok (ws := [wk 97, wk 98]) Sl.vis (by simp) 2 (by decide) (.inl (by decide))) rfl ?_
 rintro _ _ ⟨rfl, rfl⟩
 refine vc_nil ?_
 refine vc_then ?_
 refine vc_seq ?_
 refine vc_region ?_
 refine vp ?_
 refine vc_y (y_build [(0, _), (1, _)] [_, _, _] rfl (bu_82_0_1 _ _ rfl rfl)) rfl ?_
 refine vp ?_
 refine vc_y (y_build [(0, _), (1, _), (2, _)] [_, _, _] rfl (bu_82_0_1_2 _ _ _ rfl rfl rfl)) rfl ?_
 refine vc_buildSlice (E := eSrc) [(0, _), (1, _)] (srcs13 ba bb) rfl rfl (bs_80_2 _ _ _ _ _ _ ) rfl (fun h35 => ?_)
 refine vc_y (y_build [(2, _)] [_, _, _] rfl (bu_74_2 _ rfl)) rfl ?_
 refine vc_callv ca_44 (us := []) (vs := []) rfl [_, _, _, _] rfl [0] rfl (mopen_ok (xs := srcs13 ba bb) Sl.vis (by simp [srcs13]) ⟨#[]⟩ ⟨#[]⟩ 9 none (-1) (by simp [srcs13, isNilS]) (by kernel_rfl)) rfl ?_
 rintro _ _ ⟨bc, hl, rfl, rfl⟩
 iterate 5 refine vp ?_
 refine vc_nil ?_
 refine vc_then ?_
 refine vc_seq ?_
 refine vc_region ?_
 refine vc_ent (l' := seps [RoomC ba XA, RoomC bb XB] :: _) (ent_at [5, 3, 0, 0, 0, 0, 0] rfl Ent.append) ?_
 refine vc_ent (l' := emp :: _) Ent.empL ?_
 refine vp ?_
 refine vc_callv ca_42 (us := []) (vs := []) rfl [_, _] rfl [2, 2, 0, 0] rfl (step_spec (C := cu13 ba bb) own_nil0 (src13_ok ba bb) mu_nil0 (cu13_ok ba bb) (n := 9) (by decide) (by decide)) rfl ?_
 rintro _ _ ⟨hr, rfl, rfl⟩
 rw [step13 ba bb]
 iterate 7 refine vp ?_
 refine vc_nil ?_
 refine vc_then ?_
 refine vc_seq ?_
 refine vc_region ?_
 refine vc_see 0 rfl (Sl.vis.imp fun w r => r.len) (fun hrl => ?_)
 iterate 3 refine vp ?_
 first | refine vc_splitP 48 rfl (fun c48 => ?_) (fun c48 => ?_) | refine vc_splitN 48 rfl (fun c48 => ?_) (fun c48 => ?_) | refine vc_split 48 rfl (fun c48 => ?_) (fun c48 => ?_)
 ·skip
  refine vc_guardT 48 rfl rfl ?_
  refine vp ?_
  refine vc_guardT 48 rfl rfl ?_
  iterate 3 refine vp ?_
  first | refine vc_splitP 52 rfl (fun c52 => ?_) (fun c52 => ?_) | refine vc_splitN 52 rfl (fun c52 => ?_) (fun c52 => ?_) | refine vc_split 52 rfl (fun c52 => ?_) (fun c52 => ?_)
  ·skip
   refine vc_guardT 52 rfl rfl ?_
   refine vp ?_
   refine vc_guardT 52 rfl rfl ?_
   iterate 3 refine vp ?_
   first | refine vc_splitP 56 rfl (fun c56 => ?_) (fun c56 => ?_) | refine vc_splitN 56 rfl (fun c56 => ?_) (fun c56 => ?_) | refine vc_split 56 rfl (fun c56 => ?_) (fun c56 => ?_)
   ·skip
    refine vc_guardT 56 rfl rfl ?_
    refine vp ?_
    refine vc_guardT 56 rfl rfl ?_
    iterate 3 refine vp ?_
    first | refine vc_splitP 60 rfl (fun c60 => ?_) (fun c60 => ?_) | refine vc_splitN 60 rfl (fun c60 => ?_) (fun c60 => ?_) | refine vc_split 60 rfl (fun c60 => ?_) (fun c60 => ?_)
    ·skip
     refine vc_guardT 60 rfl rfl ?_
     iterate 3 refine vp ?_
     refine vc_guardT 63 rfl rfl ?_
     refine vp ?_
     refine vc_guardT 63 rfl rfl ?_
     refine vc_y (y_len Tryz.underlying77 rfl hrl) rfl ?_
     refine vc_guardT 63 rfl rfl ?_
     iterate 3 refine vp ?_
     first | refine vc_splitP 68 rfl (fun c68 => ?_) (fun c68 => ?_) | refine vc_splitN 68 rfl (fun c68 => ?_) (fun c68 => ?_) | refine vc_split 68 rfl (fun c68 => ?_) (fun c68 => ?_)
     ·skip
      refine vc_guardT 68 rfl rfl ?_
      refine vp ?_
      refine vc_guardT 68 rfl rfl ?_
      refine vc_y (y_elem 0 rfl (Sl.vis) 1 rfl (Nat.le_of_ble_eq_true (n := 2) rfl) sl_77 rfl rfl) rfl ?_
      refine vc_guardT 68 rfl rfl ?_
      refine vc_y (y_fieldE fl_158_0 0 rfl rfl) rfl ?_
      refine vc_guardT 68 rfl rfl ?_
      refine vc_y (y_load1 0 rfl one_3 rfl (Rd.vis1 (Sl.vis) (rfl : _ = some (rowk 1 97)) rfl)) rfl ?_
      refine vc_guardT 68 rfl rfl ?_
      iterate 3 refine vp ?_
      first | refine vc_splitP 75 rfl (fun c75 => ?_) (fun c75 => ?_) | refine vc_splitN 75 rfl (fun c75 => ?_) (fun c75 => ?_) | refine vc_split 75 rfl (fun c75 => ?_) (fun c75 => ?_)
      ·skip
       refine vc_guardT 75 rfl rfl ?_
       refine vp ?_
       refine vc_guardT 75 rfl rfl ?_
       refine vc_y (y_elem 0 rfl (Sl.vis) 3 rfl (Nat.le_of_ble_eq_true (n := 4) rfl) sl_77 rfl rfl) rfl ?_
       refine vc_guardT 75 rfl rfl ?_
       refine vc_y (y_fieldE fl_158_1 1 rfl rfl) rfl ?_
       refine vc_guardT 75 rfl rfl ?_
       refine vc_y (y_load1 0 rfl one_9 rfl (Rd.vis1 (Sl.vis) (rfl : _ = some (rowk 0 99)) rfl)) rfl ?_
       refine vc_guardT 75 rfl rfl ?_
       iterate 3 refine vp ?_
       refine vc_nil ?_
       refine vc_then ?_
       refine vc_ret ?_
       exact vc_end1 Tryz.results40 rfl _ (ent_pick [] rfl) ⟨by kernel_rfl, rfl⟩
      ·skip
       exact absurd (rfl : (rowk 1 97).room = 1) c75
     ·skip
      simp at c68
    ·skip
     simp at c60
   ·skip
    simp at c56
  ·skip
   simp at c52
 ·skip
  simp at c48
end Go.Proofs.YtcpbibdbahfgaaaGreat
