/-
 The walk of Put.
-/
import Derived.Test.YtcpbibdbahfgaaaGreatTree5
set_option linter.unusedVariables false
set_option linter.unusedSimpArgs false
set_option autoImplicit false
namespace Go.Proofs.YtcpbibdbahfgaaaGreat
open Go.Eng
namespace FTree6
theorem ep_129 : Tryz.prog.underlying 129 = some (.pointer (Tryz.prog.pointee 129)) := by kernel_rfl
theorem ca_157 : Callable Tryz.prog 157 := ⟨_, _, Tryz.func157, rfl, rfl⟩
theorem fl_204_3 : Fld Tryz.prog 204 3 3 := ⟨_, _, 0, Tryz.underlying204, rfl, rfl, by kernel_rfl⟩
theorem one_3 : TyOne Tryz.prog 3 := ⟨⟨_, Tryz.underlying3, rfl⟩, by kernel_rfl⟩
theorem sz_3 : (Tryz.prog.info? 3).map (·.size) = some 1 := by kernel_rfl
theorem fl_204_2 : Fld Tryz.prog 204 2 2 := ⟨_, _, 0, Tryz.underlying204, rfl, rfl, by kernel_rfl⟩
theorem sz_9 : (Tryz.prog.info? 9).map (·.size) = some 1 := by kernel_rfl
theorem ze_9 : (Tryz.prog.info? 9).map (·.zero) = some (some (.string ⟨#[]⟩)) := by kernel_rfl
theorem bs_136_1 (v0 : Value) (h0 : v0.cells = #[v0]) (w : World) : (Instr.buildSlice 136 1 #[(0, v0)]).run Tryz.prog w = .ok (.slice (some ⟨w.heap.size, 0, none⟩) 1 1) { w with heap := w.heap.push (.cells #[v0] 9 (0, 0)) } :=
 Go.Eng.run_buildSlice Tryz.underlying136 sz_9 ze_9 (by decide) (by rw [show Array.range (1 * 1) = #[0] from by decide]; simp [Instr.fill, cells_agg, h0]) w
theorem ze_3 : (Tryz.prog.info? 3).map (·.zero) = some (some (.int .i64 0)) := by kernel_rfl
theorem bs_72_1 (v0 : Value) (h0 : v0.cells = #[v0]) (w : World) : (Instr.buildSlice 72 1 #[(0, v0)]).run Tryz.prog w = .ok (.slice (some ⟨w.heap.size, 0, none⟩) 1 1) { w with heap := w.heap.push (.cells #[v0] 3 (0, 0)) } :=
 Go.Eng.run_buildSlice Tryz.underlying72 sz_3 ze_3 (by decide) (by rw [show Array.range (1 * 1) = #[0] from by decide]; simp [Instr.fill, cells_agg, h0]) w
theorem ze_231 : (Tryz.prog.info? 231).map (·.zero) = some (some (.agg #[.slice none 0 0, .slice none 0 0, .slice none 0 0])) := by kernel_rfl
theorem bu_231_0_1 (v0 : Value) (v1 : Value) (h0 : v0.cells = #[v0]) (h1 : v1.cells = #[v1]) (w : World) : (Instr.build 231 #[(0, v0), (1, v1)]).run Tryz.prog w = .ok (.agg #[v0, v1, .slice none 0 0]) w := by
 have hz := @ze_231
 exact Go.Eng.run_build (pl := [(0, 1), (1, 1), (2, 1)]) hz Tryz.underlying231 (by kernel_rfl) rfl (by simp [Instr.fill, h0, h1, cells_agg]) w
theorem ca_164 : Callable Tryz.prog 164 := ⟨_, _, Tryz.func164, rfl, rfl⟩
theorem fl_231_1 : Fld Tryz.prog 231 1 1 := ⟨_, _, 0, Tryz.underlying231, rfl, rfl, by kernel_rfl⟩
theorem one_72 : TyOne Tryz.prog 72 := ⟨⟨_, Tryz.underlying72, rfl⟩, by kernel_rfl⟩
theorem sl_72 : TySl Tryz.prog 72 3 1 := ⟨Tryz.underlying72, by kernel_rfl⟩
theorem ca_165 : Callable Tryz.prog 165 := ⟨_, _, Tryz.func165, rfl, rfl⟩
theorem fl_204_0 : Fld Tryz.prog 204 0 0 := ⟨_, _, 0, Tryz.underlying204, rfl, rfl, by kernel_rfl⟩
theorem one_202 : TyOne Tryz.prog 202 := ⟨⟨_, Tryz.underlying202, rfl⟩, by kernel_rfl⟩
theorem sl_202 : TySl Tryz.prog 202 231 3 := ⟨Tryz.underlying202, by kernel_rfl⟩
theorem ca_166 : Callable Tryz.prog 166 := ⟨_, _, Tryz.func166, rfl, rfl⟩
theorem ca_167 : Callable Tryz.prog 167 := ⟨_, _, Tryz.func167, rfl, rfl⟩
theorem bs_72_2 (v0 : Value) (v1 : Value) (h0 : v0.cells = #[v0]) (h1 : v1.cells = #[v1]) (w : World) : (Instr.buildSlice 72 2 #[(0, v0), (1, v1)]).run Tryz.prog w = .ok (.slice (some ⟨w.heap.size, 0, none⟩) 2 2) { w with heap := w.heap.push (.cells #[v0, v1] 3 (0, 0)) } :=
 Go.Eng.run_buildSlice Tryz.underlying72 sz_3 ze_3 (by decide) (by rw [show Array.range (2 * 1) = #[0, 1] from by decide]; simp [Instr.fill, cells_agg, h0, h1]) w
theorem bu_231_0_2 (v0 : Value) (v2 : Value) (h0 : v0.cells = #[v0]) (h2 : v2.cells = #[v2]) (w : World) : (Instr.build 231 #[(0, v0), (2, v2)]).run Tryz.prog w = .ok (.agg #[v0, .slice none 0 0, v2]) w := by
 have hz := @ze_231
 exact Go.Eng.run_build (pl := [(0, 1), (1, 1), (2, 1)]) hz Tryz.underlying231 (by kernel_rfl) rfl (by simp [Instr.fill, h0, h2, cells_agg]) w
end FTree6
open FTree6
theorem put_first {b : Nat} {l l' : List Nd} {fr fr' : List Nat} {m : Int} {hl hf : SH} {hs : List Nd3} (hlen : hs.length = l.length) (key : ByteArray) (n : Int) {k : Nat} (hm0 : 0 ≤ m) (hm : m < 100000) (hA : AddR l fr ⟨[key], [n], []⟩ k l' fr') :
  Does Tryz.prog 130 [.pointer (some ⟨b, 0, none⟩), .string key, .int .i64 n] (TO b ⟨l, fr, none, m⟩ hl hf hs) (fun v l2 => ∃ hl' hf' hs', hs'.length = l'.length ∧ v = .tuple #[.int .i64 0, .bool false, .int .i64 0] ∧ l2 = TO b ⟨l', fr', some k, m + 1⟩ hl' hf' hs') := by
 refine spec_of Tryz.func130 rfl Tryz.ntmps130 Tryz.results130 _ (by simp) fun ι F => ?_
 refine vc_seq ?_
 refine vc_region ?_
 iterate 3 refine vp ?_
 refine vc_nil ?_
 refine vc_then ?_
 refine vc_seq ?_
 refine vc_seq ?_
 refine vc_region ?_
 refine vp ?_
 refine vc_y (y_eqNil ep_129 rfl rfl) rfl ?_
 refine vc_nil ?_
 refine vc_then ?_
 refine vc_condF rfl ?_
 refine vc_skip ?_
 refine vc_then ?_
 refine vc_seq ?_
 refine vc_seq ?_
 refine vc_region ?_
 refine vp ?_
 refine vp ?_
 refine vc_callv ca_157 (us := []) (vs := []) rfl [_, _] rfl [0, 0, 0, 0] rfl (find_none key) rfl ?_
 rintro _ _ ⟨rfl, rfl⟩
 iterate 7 refine vp ?_
 refine vc_nil ?_
 refine vc_then ?_
 refine vc_seq ?_
 refine vc_region ?_
 refine vp ?_
 refine vc_nil ?_
 refine vc_then ?_
 refine vc_condF rfl ?_
 refine vc_skip ?_
 refine vc_then ?_
 refine vc_seq ?_
 refine vc_seq ?_
 refine vc_region ?_
 refine vp ?_
 refine vp ?_
 refine vc_y (y_fieldP fl_204_3 3 rfl rfl) rfl ?_
 refine vc_y (y_load1 0 rfl one_3 rfl (Pts.vis rfl)) rfl ?_
 refine vp ?_
 refine vc_nil ?_
 refine vc_then ?_
 first | refine vc_condP rfl (fun c45 => ?_) (fun c45 => ?_) | refine vc_condN rfl (fun c45 => ?_) (fun c45 => ?_) | refine vc_cond rfl (fun c45 => ?_) (fun c45 => ?_)
 ·skip
  exact absurd c45 (by show ¬ (m ≥ 100000); omega)
 ·skip
  refine vc_skip ?_
  refine vc_then ?_
  refine vc_seq ?_
  refine vc_region ?_
  refine vp ?_
  refine vp ?_
  refine vc_y (y_fieldP fl_204_3 3 rfl rfl) rfl ?_
  refine vc_y (y_load1 0 rfl one_3 rfl (Pts.vis rfl)) rfl ?_
  refine vc_y (y_arith (m + 1) rfl (wrap64 (x := m + 1) (by omega) (by omega))) rfl ?_
  refine vp ?_
  refine vc_y (y_fieldP fl_204_3 3 rfl rfl) rfl ?_
  refine vc_storeP 0 rfl [_] [_, _, _, _] rfl rfl rfl sz_3 rfl rfl rfl ?_
  refine vc_nil ?_
  refine vc_then ?_
  refine vc_seq ?_
  refine vc_seq ?_
  refine vc_region ?_
  refine vp ?_
  refine vp ?_
  refine vc_y (y_fieldP fl_204_2 2 rfl rfl) rfl ?_
  refine vc_y (y_load1 0 rfl one_3 rfl (Pts.vis rfl)) rfl ?_
  refine vp ?_
  refine vc_nil ?_
  refine vc_then ?_
  first | refine vc_condP rfl (fun c57 => ?_) (fun c57 => ?_) | refine vc_condN rfl (fun c57 => ?_) (fun c57 => ?_) | refine vc_cond rfl (fun c57 => ?_) (fun c57 => ?_)
  ·skip
   refine vc_seq ?_
   refine vc_region ?_
   iterate 3 refine vp ?_
   refine vc_buildSlice (E := eStr) [(0, _)] [key] rfl rfl (bs_136_1 _ rfl) rfl (fun h61 => ?_)
   refine vp ?_
   refine vc_buildSlice (E := eInt) [(0, _)] [n] rfl rfl (bs_72_1 _ rfl) rfl (fun h63 => ?_)
   refine vc_y (y_build [(0, _), (1, _)] [_, _, _] rfl (bu_231_0_1 _ _ rfl rfl)) rfl ?_
   refine vc_ent (l' := Sl eNat nilS [] :: _) sl_new ?_
   refine vc_callv ca_164 (us := []) (vs := []) rfl [_, _] rfl [3, 3, 3, 3, 2, 1, 0] rfl (add_spec (r := none) (m := m + 1) hlen (h := ⟨h61, h63, nilS⟩) (d := ⟨[key], [n], []⟩) hA) rfl ?_
   rintro _ _ ⟨hl1, hf1, hs1, ln1, hk1, ho1, rfl, rfl⟩
   refine vp ?_
   refine vc_y (y_fieldP fl_204_2 2 rfl rfl) rfl ?_
   refine vc_storeP 0 rfl [_] [_, _, _, _] rfl rfl rfl sz_3 rfl rfl rfl ?_
   refine vc_nil ?_
   refine vc_then ?_
   refine vc_seq ?_
   refine vc_region ?_
   iterate 3 refine vp ?_
   refine vc_nil ?_
   refine vc_then ?_
   refine vc_ret ?_
   refine vc_thenRet ?_
   exact vc_end3 Tryz.results130 rfl rfl rfl _ (ent_pick [0, 0, 0, 0] rfl) ⟨hl1, hf1, hs1, ln1, rfl, rfl⟩
  ·skip
   exact absurd (by show (-1 : Int) < 0; omega) c57
theorem put_hit {b : Nat} {l : List Nd} {fr : List Nat} {r : Nat} {m : Int} {hl hf0 : SH} {hs : List Nd3} (hlen : hs.length = l.length) (hR : RiseAll l) (key : ByteArray) (n : Int) {fu jl : Nat} {d : Nd} (hdsc : dsc fu l r key = some jl) (hjd : l[jl]? = some d) (hf : fnd d.keys key = true) (hn : d.nums.length = d.keys.length) :
  Does Tryz.prog 130 [.pointer (some ⟨b, 0, none⟩), .string key, .int .i64 n] (TO b ⟨l, fr, some r, m⟩ hl hf0 hs) (fun v l2 => ∃ hl' hf' hs', hs'.length = (l.set jl ⟨d.keys, d.nums.set (lb d.keys key) n, d.kids⟩).length ∧ v = .tuple #[.int .i64 (d.nums.getD (lb d.keys key) 0), .bool true, .int .i64 0] ∧ l2 = TO b ⟨l.set jl ⟨d.keys, d.nums.set (lb d.keys key) n, d.kids⟩, fr, some r, m⟩ hl' hf' hs') := by
 refine spec_of Tryz.func130 rfl Tryz.ntmps130 Tryz.results130 _ (by simp) fun ι F => ?_
 obtain ⟨h, hh⟩ := getSome hlen hjd
 have hlt := fnd_lt hf
 refine vc_seq ?_
 refine vc_region ?_
 iterate 3 refine vp ?_
 refine vc_nil ?_
 refine vc_then ?_
 refine vc_seq ?_
 refine vc_seq ?_
 refine vc_region ?_
 refine vp ?_
 refine vc_y (y_eqNil ep_129 rfl rfl) rfl ?_
 refine vc_nil ?_
 refine vc_then ?_
 refine vc_condF rfl ?_
 refine vc_skip ?_
 refine vc_then ?_
 refine vc_seq ?_
 refine vc_seq ?_
 refine vc_region ?_
 refine vp ?_
 refine vp ?_
 refine vc_callv ca_157 (us := []) (vs := []) rfl [_, _] rfl [0, 0, 0, 0] rfl (find_some hlen hR key hdsc hjd) rfl ?_
 rintro _ _ ⟨rfl, rfl⟩
 iterate 7 refine vp ?_
 refine vc_nil ?_
 refine vc_then ?_
 refine vc_seq ?_
 refine vc_region ?_
 refine vp ?_
 refine vc_nil ?_
 refine vc_then ?_
 first | refine vc_condP rfl (fun c25 => ?_) (fun c25 => ?_) | refine vc_condN rfl (fun c25 => ?_) (fun c25 => ?_) | refine vc_cond rfl (fun c25 => ?_) (fun c25 => ?_)
 ·skip
  refine vc_seq ?_
  refine vc_region ?_
  refine vp ?_
  refine vp ?_
  refine vc_y (y_fieldE fl_231_1 1 rfl rfl) rfl ?_
  refine vc_y (y_load1 1 rfl one_72 rfl (Rd.vis1 (Sl.vis) hh rfl)) rfl ?_
  refine vp ?_
  refine vc_y (y_elem 3 rfl (Nodes.visN hh hjd) (lb d.keys key) rfl (by omega) sl_72 rfl rfl) rfl ?_
  refine vc_y (y_load1 3 rfl one_3 rfl (Rd.vis1 (Nodes.visN hh hjd) (List.getElem?_eq_getElem (by first | assumption | omega)) rfl)) rfl ?_
  refine vp ?_
  refine vc_nil ?_
  refine vc_then ?_
  refine vc_seq ?_
  refine vc_region ?_
  refine vc_openN 3 rfl hh hjd ?_
  refine vp ?_
  refine vp ?_
  refine vc_y (y_fieldE fl_231_1 1 rfl rfl) rfl ?_
  refine vc_y (y_load1 5 rfl one_72 rfl (Rd.vis1 (Sl.vis) hh rfl)) rfl ?_
  refine vp ?_
  refine vp ?_
  refine vc_y (y_elem 1 rfl (Sl.vis) (lb d.keys key) rfl (by omega) sl_72 rfl rfl) rfl ?_
  refine vc_storeE 1 rfl [_] n rfl rfl rfl sz_3 rfl (List.getElem?_eq_getElem (by first | assumption | omega)) (Nat.le_of_ble_eq_true rfl) rfl ?_
  refine vc_nil ?_
  refine vc_then ?_
  refine vc_seq ?_
  refine vc_region ?_
  iterate 4 refine vp ?_
  refine vc_nil ?_
  refine vc_then ?_
  refine vc_ret ?_
  refine vc_thenRet ?_
  exact vc_end3 Tryz.results130 rfl rfl rfl _ (ent_at [4, 4, 4, 0, 0, 0, 0] rfl (ent_cons (ent_cons (ent_cons (ent_closeN h (⟨d.keys, d.nums.set (lb d.keys key) n, d.kids⟩) hh (List.getElem?_set_self (getLt hjd)) List.length_set (fun j hj => rfl) (fun j hj => by rw [List.getElem?_set_ne (Ne.symm hj)])))))) ⟨hl, hf0, hs, by simp [hlen], by simp [List.getElem?_eq_getElem (show lb d.keys key < d.nums.length by omega)], rfl⟩
 ·skip
  rw [hf] at c25; cases c25
theorem put_new {b : Nat} {l l' : List Nd} {fr fr' : List Nat} {r : Nat} {m : Int} {hl hf0 : SH} {hs : List Nd3} (hlen : hs.length = l.length) (hR : RiseAll l) (key : ByteArray) (n : Int) {fu jl : Nat} {d : Nd} (hdsc : dsc fu l r key = some jl) (hjd : l[jl]? = some d) (hf : fnd d.keys key = false) (hm0 : 0 ≤ m) (hm : m < 100000) {fp : Nat} {l1 : List Nd} {fr1 : List Nat} {dc : Nd} {r' : Nat} (hp : PutR key n fp l fr r l1 fr1) (hdc : l1[r]? = some dc) (hgc : Good dc)
  (hcase : (sizeN dc ≤ 4 ∧ l' = l1 ∧ fr' = fr1 ∧ r' = r) ∨ (4 < sizeN dc ∧ ∃ k s l2 fr2 k2, SplitR l1 fr1 r k s l2 fr2 ∧ AddR l2 fr2 ⟨[s], [], [r, k]⟩ k2 l' fr' ∧ r' = k2)) :
  Does Tryz.prog 130 [.pointer (some ⟨b, 0, none⟩), .string key, .int .i64 n] (TO b ⟨l, fr, some r, m⟩ hl hf0 hs) (fun v l2 => ∃ hl' hf' hs', hs'.length = l'.length ∧ v = .tuple #[.int .i64 0, .bool false, .int .i64 0] ∧ l2 = TO b ⟨l', fr', some r', m + 1⟩ hl' hf' hs') := by
 refine spec_of Tryz.func130 rfl Tryz.ntmps130 Tryz.results130 _ (by simp) fun ι F => ?_
 obtain ⟨h, hh⟩ := getSome hlen hjd
 refine vc_seq ?_
 refine vc_region ?_
 iterate 3 refine vp ?_
 refine vc_nil ?_
 refine vc_then ?_
 refine vc_seq ?_
 refine vc_seq ?_
 refine vc_region ?_
 refine vp ?_
 refine vc_y (y_eqNil ep_129 rfl rfl) rfl ?_
 refine vc_nil ?_
 refine vc_then ?_
 refine vc_condF rfl ?_
 refine vc_skip ?_
 refine vc_then ?_
 refine vc_seq ?_
 refine vc_seq ?_
 refine vc_region ?_
 refine vp ?_
 refine vp ?_
 refine vc_callv ca_157 (us := []) (vs := []) rfl [_, _] rfl [0, 0, 0, 0] rfl (find_some hlen hR key hdsc hjd) rfl ?_
 rintro _ _ ⟨rfl, rfl⟩
 iterate 7 refine vp ?_
 refine vc_nil ?_
 refine vc_then ?_
 refine vc_seq ?_
 refine vc_region ?_
 refine vp ?_
 refine vc_nil ?_
 refine vc_then ?_
 first | refine vc_condP rfl (fun c25 => ?_) (fun c25 => ?_) | refine vc_condN rfl (fun c25 => ?_) (fun c25 => ?_) | refine vc_cond rfl (fun c25 => ?_) (fun c25 => ?_)
 ·skip
  rw [hf] at c25; cases c25
 ·skip
  refine vc_skip ?_
  refine vc_then ?_
  refine vc_seq ?_
  refine vc_seq ?_
  refine vc_region ?_
  refine vp ?_
  refine vp ?_
  refine vc_y (y_fieldP fl_204_3 3 rfl rfl) rfl ?_
  refine vc_y (y_load1 0 rfl one_3 rfl (Pts.vis rfl)) rfl ?_
  refine vp ?_
  refine vc_nil ?_
  refine vc_then ?_
  first | refine vc_condP rfl (fun c45 => ?_) (fun c45 => ?_) | refine vc_condN rfl (fun c45 => ?_) (fun c45 => ?_) | refine vc_cond rfl (fun c45 => ?_) (fun c45 => ?_)
  ·skip
   exact absurd c45 (by show ¬ (m ≥ 100000); omega)
  ·skip
   refine vc_skip ?_
   refine vc_then ?_
   refine vc_seq ?_
   refine vc_region ?_
   refine vp ?_
   refine vp ?_
   refine vc_y (y_fieldP fl_204_3 3 rfl rfl) rfl ?_
   refine vc_y (y_load1 0 rfl one_3 rfl (Pts.vis rfl)) rfl ?_
   refine vc_y (y_arith (m + 1) rfl (wrap64 (x := m + 1) (by omega) (by omega))) rfl ?_
   refine vp ?_
   refine vc_y (y_fieldP fl_204_3 3 rfl rfl) rfl ?_
   refine vc_storeP 0 rfl [_] [_, _, _, _] rfl rfl rfl sz_3 rfl rfl rfl ?_
   refine vc_nil ?_
   refine vc_then ?_
   refine vc_seq ?_
   refine vc_seq ?_
   refine vc_region ?_
   refine vp ?_
   refine vp ?_
   refine vc_y (y_fieldP fl_204_2 2 rfl rfl) rfl ?_
   refine vc_y (y_load1 0 rfl one_3 rfl (Pts.vis rfl)) rfl ?_
   refine vp ?_
   refine vc_nil ?_
   refine vc_then ?_
   first | refine vc_condP rfl (fun c57 => ?_) (fun c57 => ?_) | refine vc_condN rfl (fun c57 => ?_) (fun c57 => ?_) | refine vc_cond rfl (fun c57 => ?_) (fun c57 => ?_)
   ·skip
    exact absurd c57 (by show ¬ ((r : Int) < 0); omega)
   ·skip
    refine vc_skip ?_
    refine vc_then ?_
    refine vc_seq ?_
    refine vc_region ?_
    iterate 3 refine vp ?_
    refine vc_y (y_fieldP fl_204_2 2 rfl rfl) rfl ?_
    refine vc_y (y_load1 0 rfl one_3 rfl (Pts.vis rfl)) rfl ?_
    refine vp ?_
    refine vp ?_
    refine vc_callv ca_165 (us := []) (vs := []) rfl [_, _, _, _] rfl [0, 0, 0, 0] rfl (put_spec (r := some r) (m := m + 1) hlen key n fp r l1 fr1 hp) rfl ?_
    rintro _ _ ⟨hl1, hf1, hs1, ln1, rfl, rfl⟩
    obtain ⟨hc1, hhc1⟩ := getSome ln1 hdc
    refine vc_see 3 rfl ((Nodes.visK hhc1 hdc).imp fun w r => r.len) (fun ek1 => ?_)
    refine vc_see 3 rfl ((Nodes.visN hhc1 hdc).imp fun w r => r.len) (fun en1 => ?_)
    refine vc_see 3 rfl ((Nodes.visC hhc1 hdc).imp fun w r => r.len) (fun ec1 => ?_)
    refine vc_nil ?_
    refine vc_then ?_
    refine vc_seq ?_
    refine vc_seq ?_
    refine vc_draw (by kernel_rfl) _ none [0, 0] rfl ?_
    refine tpp 0 ?_
    refine tpp 1 ?_
    refine tp 2 rfl (by exact y_fieldP fl_204_0 0 rfl rfl) ?_
    refine tk 3 rfl (by exact y_load1 0 rfl one_202 rfl (Pts.vis rfl)) ?_
    refine tpp 4 ?_
    refine tpp 5 ?_
    refine tp 6 rfl (by exact y_fieldP fl_204_2 2 rfl rfl) ?_
    refine tk 7 rfl (by exact y_load1 0 rfl one_3 rfl (Pts.vis rfl)) ?_
    refine tk 8 rfl (by exact y_elem 1 rfl (Sl.vis) r rfl (getLt hhc1) sl_202 rfl rfl) ?_
    refine va_ready [9] (by kernel_rfl) rfl ?_
    refine vo_cons rfl (fun hC0 => ?_) ?_
    ·skip
     refine vc_callv ca_166 (us := []) (vs := []) rfl [_] rfl [1] rfl (size_specD (h := hc1) (d := dc) (Rd.vis1 Sl.vis hhc1 rfl) (Rd.vis1 Sl.vis hhc1 rfl) ek1 ec1) rfl ?_
     rintro _ _ ⟨rfl, rfl⟩
     refine vc_nil ?_
     refine vc_then ?_
     refine va_kept hC0 [1, 0] rfl ?_
     clear hC0
     refine tpp 10 ?_
     refine va_done (by kernel_rfl) ?_
     refine vc_then ?_
     first | refine vc_condP rfl (fun c86 => ?_) (fun c86 => ?_) | refine vc_condN rfl (fun c86 => ?_) (fun c86 => ?_) | refine vc_cond rfl (fun c86 => ?_) (fun c86 => ?_)
     ·skip
      obtain ⟨k, s, l2, fr2, k2, hsp, hA, rfl⟩ := (hcase.resolve_left (fun h0 => by omega)).2
      refine vc_seq ?_
      refine vc_region ?_
      refine vp ?_
      refine vp ?_
      refine vc_y (y_fieldP fl_204_2 2 rfl rfl) rfl ?_
      refine vc_y (y_load1 1 rfl one_3 rfl (Pts.vis rfl)) rfl ?_
      refine vp ?_
      refine vc_nil ?_
      refine vc_then ?_
      refine vc_seq ?_
      refine vc_region ?_
      refine vp ?_
      refine vp ?_
      refine vc_callv ca_167 (us := []) (vs := []) rfl [_, _] rfl [1, 0, 0, 0] rfl (split_spec (r := some r) (m := m + 1) ln1 hsp) rfl ?_
      rintro _ _ ⟨hl2, hf2, hs2, ln2, rfl, rfl⟩
      iterate 5 refine vp ?_
      refine vc_nil ?_
      refine vc_then ?_
      refine vc_region ?_
      iterate 3 refine vp ?_
      refine vc_buildSlice (E := eStr) [(0, _)] [s] rfl rfl (bs_136_1 _ rfl) rfl (fun h100 => ?_)
      refine vp ?_
      refine vp ?_
      refine vc_buildSlice (E := eNat) [(0, _), (1, _)] [r, k] rfl rfl (bs_72_2 _ _ rfl rfl) rfl (fun h103 => ?_)
      refine vc_y (y_build [(0, _), (2, _)] [_, _, _] rfl (bu_231_0_2 _ _ rfl rfl)) rfl ?_
      refine vc_ent (l' := Sl eInt nilS [] :: _) sl_new ?_
      refine vc_callv ca_164 (us := []) (vs := []) rfl [_, _] rfl [3, 3, 3, 3, 2, 0, 0] rfl (add_spec (r := some r) (m := m + 1) ln2 (h := ⟨h100, nilS, h103⟩) (d := ⟨[s], [], [r, k]⟩) hA) rfl ?_
      rintro _ _ ⟨hl3, hf3, hs3, ln3, hk3, ho3, rfl, rfl⟩
      refine vp ?_
      refine vc_y (y_fieldP fl_204_2 2 rfl rfl) rfl ?_
      refine vc_storeP 0 rfl [_] [_, _, _, _] rfl rfl rfl sz_3 rfl rfl rfl ?_
      refine vc_nil ?_
      refine vc_then ?_
      refine vc_seq ?_
      refine vc_region ?_
      iterate 3 refine vp ?_
      refine vc_nil ?_
      refine vc_then ?_
      refine vc_ret ?_
      exact vc_end3 Tryz.results130 rfl rfl rfl _ (ent_pick [0, 0, 0, 0] rfl) ⟨hl3, hf3, hs3, ln3, rfl, rfl⟩
     ·skip
      obtain ⟨_, rfl, rfl, rfl⟩ := hcase.resolve_right (fun h0 => by omega)
      refine vc_skip ?_
      refine vc_then ?_
      refine vc_seq ?_
      refine vc_region ?_
      iterate 3 refine vp ?_
      refine vc_nil ?_
      refine vc_then ?_
      refine vc_ret ?_
      exact vc_end3 Tryz.results130 rfl rfl rfl _ (ent_pick [1, 0, 0, 0] rfl) ⟨hl1, hf1, hs1, ln1, rfl, rfl⟩
    exact vo_nil
end Go.Proofs.YtcpbibdbahfgaaaGreat
