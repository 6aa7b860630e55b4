/-
 The walk of Put.
-/
import Derived.Test.YtcpbibdbahfgaaaGreatSw6
set_option linter.unusedVariables false
set_option linter.unusedSimpArgs false
set_option autoImplicit false
namespace Go.Proofs.YtcpbibdbahfgaaaGreat
open Go.Eng
namespace FTree6
theorem ep_129 : Tryz.prog.underlying 129 = some (.pointer (Tryz.prog.pointee 129)) := by kernel_rfl
theorem ca_157 : Callable Tryz.prog 157 := ⟨_, _, Tryz.func157, rfl, rfl⟩
theorem fl_204_3 : Fld Tryz.prog 204 3 3 := ⟨_, _, 0, Tryz.underlying204, rfl, rfl, by kernel_rfl⟩
theorem one_3 : TyOne Tryz.prog 3 := ⟨⟨_, Tryz.underlying3, rfl⟩, by kernel_rfl⟩
theorem sz_3 : (Tryz.prog.info? 3).map (·.size) = some 1 := by kernel_rfl
theorem fl_204_2 : Fld Tryz.prog 204 2 2 := ⟨_, _, 0, Tryz.underlying204, rfl, rfl, by kernel_rfl⟩
theorem sz_9 : (Tryz.prog.info? 9).map (·.size) = some 1 := by kernel_rfl
theorem ze_9 : (Tryz.prog.info? 9).map (·.zero) = some (some (.string ⟨#[]⟩)) := by kernel_rfl
theorem bs_136_1 (v0 : Value) (h0 : v0.cells = #[v0]) (w : World) : (Instr.buildSlice 136 1 #[(0, v0)]).run Tryz.prog w = .ok (.slice (some ⟨w.heap.size, 0, none⟩) 1 1) { w with heap := w.heap.push (.cells #[v0] 9 (0, 0)) } :=
 Go.Eng.run_buildSlice Tryz.underlying136 sz_9 ze_9 (by decide) (by rw [show Array.range (1 * 1) = #[0] from by decide]; simp [Instr.fill, cells_agg, h0]) w
theorem ze_3 : (Tryz.prog.info? 3).map (·.zero) = some (some (.int .i64 0)) := by kernel_rfl
theorem bs_72_1 (v0 : Value) (h0 : v0.cells = #[v0]) (w : World) : (Instr.buildSlice 72 1 #[(0, v0)]).run Tryz.prog w = .ok (.slice (some ⟨w.heap.size, 0, none⟩) 1 1) { w with heap := w.heap.push (.cells #[v0] 3 (0, 0)) } :=
 Go.Eng.run_buildSlice Tryz.underlying72 sz_3 ze_3 (by decide) (by rw [show Array.range (1 * 1) = #[0] from by decide]; simp [Instr.fill, cells_agg, h0]) w
theorem ze_231 : (Tryz.prog.info? 231).map (·.zero) = some (some (.agg #[.slice none 0 0, .slice none 0 0, .slice none 0 0])) := by kernel_rfl
theorem bu_231_0_1 (v0 : Value) (v1 : Value) (h0 : v0.cells = #[v0]) (h1 : v1.cells = #[v1]) (w : World) : (Instr.build 231 #[(0, v0), (1, v1)]).run Tryz.prog w = .ok (.agg #[v0, v1, .slice none 0 0]) w := by
 have hz := @ze_231
 exact Go.Eng.run_build (pl := [(0, 1), (1, 1), (2, 1)]) hz Tryz.underlying231 (by kernel_rfl) rfl (by simp [Instr.fill, h0, h1, cells_agg]) w
theorem ca_164 : Callable Tryz.prog 164 := ⟨_, _, Tryz.func164, rfl, rfl⟩
theorem fl_231_1 : Fld Tryz.prog 231 1 1 := ⟨_, _, 0, Tryz.underlying231, rfl, rfl, by kernel_rfl⟩
theorem one_72 : TyOne Tryz.prog 72 := ⟨⟨_, Tryz.underlying72, rfl⟩, by kernel_rfl⟩
theorem sl_72 : TySl Tryz.prog 72 3 1 := ⟨Tryz.underlying72, by kernel_rfl⟩
theorem ca_165 : Callable Tryz.prog 165 := ⟨_, _, Tryz.func165, rfl, rfl⟩
theorem fl_204_0 : Fld Tryz.prog 204 0 0 := ⟨_, _, 0, Tryz.underlying204, rfl, rfl, by kernel_rfl⟩
theorem one_202 : TyOne Tryz.prog 202 := ⟨⟨_, Tryz.underlying202, rfl⟩, by kernel_rfl⟩
theorem sl_202 : TySl Tryz.prog 202 231 3 := ⟨Tryz.underlying202, by kernel_rfl⟩
theorem ca_166 : Callable Tryz.prog 166 := ⟨_, _, Tryz.func166, rfl, rfl⟩
theorem ca_167 : Callable Tryz.prog 167 := ⟨_, _, Tryz.func167, rfl, rfl⟩
theorem bs_72_2 (v0 : Value) (v1 : Value) (h0 : v0.cells = #[v0]) (h1 : v1.cells = #[v1]) (w : World) : (Instr.buildSlice 72 2 #[(0, v0), (1, v1)]).run Tryz.prog w = .ok (.slice (some ⟨w.heap.size, 0, none⟩) 2 2) { w with heap := w.heap.push (.cells #[v0, v1] 3 (0, 0)) } :=
 Go.Eng.run_buildSlice Tryz.underlying72 sz_3 ze_3 (by decide) (by rw [show Array.range (2 * 1) = #[0, 1] from by decide]; simp [Instr.fill, cells_agg, h0, h1]) w
theorem bu_231_0_2 (v0 : Value) (v2 : Value) (h0 : v0.cells = #[v0]) (h2 : v2.cells = #[v2]) (w : World) : (Instr.build 231 #[(0, v0), (2, v2)]).run Tryz.prog w = .ok (.agg #[v0, .slice none 0 0, v2]) w := by
 have hz := @ze_231
 exact Go.Eng.run_build (pl := [(0, 1), (1, 1), (2, 1)]) hz Tryz.underlying231 (by kernel_rfl) rfl (by simp [Instr.fill, h0, h2, cells_agg]) w
end FTree6
open FTree6
theorem put_first {b : Nat} {l l' : List Nd} {fr fr' : List Nat} {m : Int} {hl hf : SH} {hs : List Nd3} (hlen : hs.length = l.length) (key : ByteArray) (n : Int) {k : Nat} (hm0 : 0 ≤ m) (hm : m < 100000) (hA : AddR l fr ⟨[key], [n], []⟩ k l' fr') :
  Does Tryz.prog 130 [.pointer (some ⟨b, 0, none⟩), .string key, .int .i64 n] (TO b ⟨l, fr, none, m⟩ hl hf hs) (fun v l2 => ∃ hl' hf' hs', hs'.length = l'.length ∧ v = .tuple #[.int .i64 0, .bool false, .int .i64 0] ∧ l2 = TO b ⟨l', fr', some k, m + 1⟩ hl' hf' hs') := by
 refine spec_of Tryz.func130 rfl Tryz.ntmps130 Tryz.results130 _ (by simp) fun ι F => ?_
 refine vc_seq ?_
 refine vc_region ?_
 iterate 3 refine vp ?_
 refine vc_nil ?_
 refine vc_then ?_
 refine vc_seq ?_
 refine vc_seq ?_
 refine vc_region ?_
 refine vp ?_
 refine vc_y (y_eqNil ep_129 rfl rfl) rfl ?_
 refine vc_nil ?_
 refine vc_then ?_
 refine vc_condF rfl ?_
 refine vc_skip ?_
 refine vc_then ?_
 refine vc_seq ?_
 refine vc_seq ?_
 refine vc_region ?_
 refine vp ?_
 refine vp ?_
 refine vc_callv ca_157 (us := []) (vs := []) rfl [_, _] rfl [0, 0, 0, 0] rfl (find_none key) rfl ?_
 rintro _ _ ⟨rfl, rfl⟩
 iterate 7 refine vp ?_
 refine vc_nil ?_
 refine vc_then ?_
 refine vc_seq ?_
 refine vc_region ?_
 refine vp ?_
 refine vc_nil ?_
 refine vc_then ?_
 refine vc_condF rfl ?_
 refine vc_skip ?_
 refine vc_then ?_
 refine vc_seq ?_
 refine vc_seq ?_
 refine vc_region ?_
 refine vp ?_
 refine vp ?_
 refine vc_y (y_fieldP fl_204_3 3 rfl rfl) rfl ?_
 refine vc_y (y_load1 0 rfl one_3 rfl (Pts.vis rfl)) rfl ?_
 refine vp ?_
 refine vc_nil ?_
 refine vc_then ?_
 first | refine vc_condP rfl (fun c45 => ?_) (fun c45 => ?_) | refine vc_condN rfl (fun c45 => ?_) (fun c45 => ?_) | refine vc_cond rfl (fun c45 => ?_) (fun c45 => ?_)
 ·skip
  exact absurd c45 (by show ¬ (m ≥ 100000); omega)
 ·skip
  refine vc_skip ?_
  refine vc_then ?_
  refine vc_seq ?_
  refine vc_region ?_
  refine vp ?_
  refine vp ?_
  refine vc_y (y_fieldP fl_204_3 3 rfl rfl) rfl ?_
  refine vc_y (y_load1 0 rfl one_3 rfl (Pts.vis rfl)) rfl ?_
  refine vc_y (y_arith (m + 1) rfl (wrap64 (x := m + 1) (by omega) (by omega))) rfl ?_
  refine vp ?_
  refine vc_y (y_fieldP fl_204_3 3 rfl rfl) rfl ?_
  refine vc_storeP 0 rfl [_] [_, _, _, _] rfl rfl rfl sz_3 rfl rfl rfl ?_
  refine vc_nil ?_
  refine vc_then ?_
  refine vc_seq ?_
  refine vc_seq ?_
  refine vc_region ?_
  refine vp ?_
  refine vp ?_
  refine vc_y (y_fieldP fl_204_2 2 rfl rfl) rfl ?_
  refine vc_y (y_load1 0 rfl one_3 rfl (Pts.vis rfl)) rfl ?_
  refine vp ?_
  refine vc_nil ?_
  refine vc_then ?_
  first | refine vc_condP rfl (fun c57 => ?_) (fun c57 => ?_) | refine vc_condN rfl (fun c57 => ?_) (fun c57 => ?_) | refine vc_cond rfl (fun c57 => ?_) (fun c57 => ?_)
  ·skip
   refine vc_seq ?_
   refine vc_region ?_
   iterate 3 refine vp ?_
   refine vc_buildSlice (E := eStr) [(0, _)] [key] rfl rfl (bs_136_1 _ rfl) rfl (fun h61 => ?_)
   refine vp ?_
   refine vc_buildSlice (E := eInt) [(0, _)] [n] rfl rfl (bs_72_1 _ rfl) rfl (fun h63 => ?_)
   refine vc_y (y_build [(0, _), (1, _)] [_, _, _] rfl (bu_231_0_1 _ _ rfl rfl)) rfl ?_
   refine vc_ent (l' := Sl eNat nilS [] :: _) sl_new ?_
   refine vc_callv ca_164 (us := []) (vs := []) rfl [_, _] rfl [3, 3, 3, 3, 2, 1, 0] rfl (add_spec (r := none) (m := m + 1) hlen (h := ⟨h61, h63, nilS⟩) (d := ⟨[key], [n], []⟩) hA) rfl ?_
   rintro _ _ ⟨hl1, hf1, hs1, ln1, hk1, ho1, rfl, rfl⟩
   refine vp ?_
   refine vc_y (y_fieldP fl_204_2 2 rfl rfl) rfl ?_
   refine vc_storeP 0 rfl [_] [_, _, _, _] rfl rfl rfl sz_3 rfl rfl rfl ?_
   refine vc_nil ?_
   refine vc_then ?_
   refine vc_seq ?_
   refine vc_region ?_
   iterate 3 refine vp ?_
   refine vc_nil ?_
   refine vc_then ?_
   refine vc_ret ?_
   refine vc_thenRet ?_
   exact vc_end3 Tryz.results130 rfl rfl rfl _ (ent_pick [0, 0, 0, 0] rfl) ⟨hl1, hf1, hs1, ln1, rfl, rfl⟩
  ·skip
   exact absurd (by show (-1 : Int) < 0; omega) c57
theorem put_hit {b : Nat} {l : List Nd} {fr : List Nat} {r : Nat} {m : Int} {hl hf0 : SH} {hs : List Nd3} (hlen : hs.length = l.length) (hR : RiseAll l) (key : ByteArray) (n : Int) {fu jl : Nat} {d : Nd} (hdsc : dsc fu l r key = some jl) (hjd : l[jl]? = some d) (hf : fnd d.keys key = true) (hn : d.nums.length = d.keys.length) :
  Does Tryz.prog 130 [.pointer (some ⟨b, 0, none⟩), .string key, .int .i64 n] (TO b ⟨l, fr, some r, m⟩ hl hf0 hs) (fun v l2 => ∃ hl' hf' hs', hs'.length = (l.set jl ⟨d.keys, d.nums.set (lb d.keys key) n, d.kids⟩).length ∧ v = .tuple #[.int .i64 (d.nums.getD (lb d.keys key) 0), .bool true, .int .i64 0] ∧ l2 = TO b ⟨l.set jl ⟨d.keys, d.nums.set (lb d.keys key) n, d.kids⟩, fr, some r, m⟩ hl' hf' hs') := by
 refine spec_of Tryz.func130 rfl Tryz.ntmps130 Tryz.results130 _ (by simp) fun ι F => ?_
 obtain ⟨h, hh⟩ := getSome hlen hjd
 have hlt := fnd_lt hf
 refine vc_seq ?_
 refine vc_region ?_
 iterate 3 refine vp ?_
 refine vc_nil ?_
 refine vc_then ?_
 refine vc_seq ?_
 refine vc_seq ?_
 refine vc_region ?_
 refine vp ?_
 refine vc_y (y_eqNil ep_129 rfl rfl) rfl ?_
 refine vc_nil ?_
 refine vc_then ?_
 refine vc_condF rfl ?_
 refine vc_skip ?_
 refine vc_then ?_
 refine vc_seq ?_
 refine vc_seq ?_
 refine vc_region ?_
 refine vp ?_
 refine vp ?_
 refine vc_callv ca_157 (us := []) (vs := []) rfl [_, _] rfl [0, 0, 0, 0] rfl (find_some hlen hR key hdsc hjd) rfl ?_
 rintro _ _ ⟨rfl, rfl⟩
 iterate 7 refine vp ?_
 refine vc_nil ?_
 refine vc_then ?_
 refine vc_seq ?_
 refine vc_region ?_
 refine vp ?_
 refine vc_nil ?_
 refine vc_then ?_
 first | refine vc_condP rfl (fun c25 => ?_) (fun c25 => ?_) | refine vc_condN rfl (fun c25 => ?_) (fun c25 => ?_) | refine vc_cond rfl (fun c25 => ?_) (fun c25 => ?_)
 ·skip
  refine vc_seq ?_
  refine vc_region ?_
  refine vp ?_
  refine vp ?_
  refine vc_y (y_fieldE fl_231_1 1 rfl rfl) rfl ?_
  refine vc_y (y_load1 1 rfl one_72 rfl (Rd.vis1 (Sl.vis) hh rfl)) rfl ?_
  refine vp ?_
  refine vc_y (y_elem 3 rfl (Nodes.visN hh hjd) (lb d.keys key) rfl (by omega) sl_72 rfl rfl) rfl ?_
  refine vc_y (y_load1 3 rfl one_3 rfl (Rd.vis1 (Nodes.visN hh hjd) (List.getElem?_eq_getElem (by first | assumption | omega)) rfl)) rfl ?_
  refine vp ?_
  refine vc_nil ?_
  refine vc_then ?_
  refine vc_seq ?_
  refine vc_region ?_
  refine vc_openN 3 rfl hh hjd ?_
  refine vp ?_
  refine vp ?_
  refine vc_y (y_fieldE fl_231_1 1 rfl rfl) rfl ?_
  refine vc_y (y_load1 5 rfl one_72 rfl (Rd.vis1 (Sl.vis) hh rfl)) rfl ?_
  refine vp ?_
  refine vp ?_
  refine vc_y (y_elem 1 rfl (Sl.vis) (lb d.keys key) rfl (by omega) sl_72 rfl rfl) rfl ?_
  refine vc_storeE 1 rfl [_] n rfl rfl rfl sz_3 rfl (List.getElem?_eq_getElem (by first | assumption | omega)) (Nat.le_of_ble_eq_true rfl) rfl ?_
  refine vc_nil ?_
  refine vc_then ?_
  refine vc_seq ?_
  refine vc_region ?_
  iterate 4 refine vp ?_
  refine vc_nil ?_
  refine vc_then ?_
  refine vc_ret ?_
  refine vc_thenRet ?_
  exact vc_end3 Tryz.results130 rfl rfl rfl _ (ent_at [4, 4, 4, 0, 0, 0, 0] rfl (ent_cons (ent_cons (ent_cons (ent_closeN h (⟨d.keys, d.nums.set (lb d.keys key) n, d.kids⟩) hh (List.getElem?_set_self (getLt hjd)) List.length_set (fun j hj => rfl) (fun j hj => by rw [List.getElem?_set_ne (Ne.symm hj)])))))) ⟨hl, hf0, hs, by simp [hlen], by simp [List.getElem?_eq_getElem (show lb d.keys key < d.nums.length by omega)], rfl⟩
 ·skip
  rw [hf] at c25; cases c25
theorem put_new {b : Nat} {l l' : List Nd} {fr fr' : List Nat} {r : Nat} {m : Int} {hl hf0 : SH} {hs : List Nd3} (hlen : hs.length = l.length) (hR : RiseAll l) (key : ByteArray) (n : Int) {fu jl : Nat} {d : Nd} (hdsc : dsc fu l r key = some jl) (hjd : l[jl]? = some d) (hf : fnd d.keys key = false) (hm0 : 0 ≤ m) (hm : m < 100000) {fp : Nat} {l1 : List Nd} {fr1 : List Nat} {dc : Nd} {r' : Nat} (hp : PutR key n fp l fr r l1 fr1) (hdc : l1[r]? = some dc) (hgc : Good dc)
  (hcase : (sizeN dc ≤ 4 ∧ l' = l1 ∧ fr' = fr1 ∧ r' = r) ∨ (4 < sizeN dc ∧ ∃ k s l2 fr2 k2, SplitR l1 fr1 r k s l2 fr2 ∧ AddR l2 fr2 ⟨[s], [], [r, k]⟩ k2 l' fr' ∧ r' = k2)) :
  Does Tryz.prog 130 [.pointer (some ⟨b, 0, none⟩), .string key, .int .i64 n] (TO b ⟨l, fr, some r, m⟩ hl hf0 hs) (fun v l2 => ∃ hl' hf' hs', hs'.length = l'.length ∧ v = .tuple #[.int .i64 0, .bool false, .int .i64 0] ∧ l2 = TO b ⟨l', fr', some r', m + 1⟩ hl' hf' hs') := by
 refine spec_of Tryz.func130 rfl Tryz.ntmps130 Tryz.results130 _ (by simp) fun ι F => ?_
 obtain ⟨h, hh⟩ := getSome hlen hjd
 refine vc_seq ?_
 refine vc_region ?_
 iterate 3 refine vp ?_
 refine vc_nil ?_
 refine vc_then ?_
 refine vc_seq ?_
 refine vc_seq ?_
 refine vc_region ?_
 refine vp ?_
 refine vc_y (y_eqNil ep_129 rfl rfl) rfl ?_
 refine vc_nil ?_
 refine vc_then ?_
 refine vc_condF rfl ?_
 refine vc_skip ?_
 refine vc_then ?_
 refine vc_seq ?_
 refine vc_seq ?_
 refine vc_region ?_
 refine vp ?_
 refine vp ?_
 refine vc_callv ca_157 (us := []) (vs := []) rfl [_, _] rfl [0, 0, 0, 0] rfl (find_some hlen hR key hdsc hjd) rfl ?_
 rintro _ _ ⟨rfl, rfl⟩
 iterate 7 refine vp ?_
 refine vc_nil ?_
 refine vc_then ?_
 refine vc_seq ?_
 refine vc_region ?_
 refine vp ?_
 refine vc_nil ?_
 refine vc_then ?_
 first | refine vc_condP rfl (fun c25 => ?_) (fun c25 => ?_) | refine vc_condN rfl (fun c25 => ?_) (fun c25 => ?_) | refine vc_cond rfl (fun c25 => ?_) (fun c25 => ?_)
 ·skip
  rw [hf] at c25; cases c25
 ·skip
  refine vc_skip ?_
  refine vc_then ?_
  refine vc_seq ?_
  refine vc_seq ?_
  refine vc_region ?_
  refine vp ?_
  refine vp ?_
  refine vc_y (y_fieldP fl_204_3 3 rfl rfl) rfl ?_
  refine vc_y (y_load1 0 rfl one_3 rfl (Pts.vis rfl)) rfl ?_
  refine vp ?_
  refine vc_nil ?_
  refine vc_then ?_
  first | refine vc_condP rfl (fun c45 => ?_) (fun c45 => ?_) | refine vc_condN rfl (fun c45 => ?_) (fun c45 => ?_) | refine vc_cond rfl (fun c45 => ?_) (fun c45 => ?_)
  ·skip
   exact absurd c45 (by show ¬ (m ≥ 100000); omega)
  ·skip
   refine vc_skip ?_
   refine vc_then ?_
   refine vc_seq ?_
   refine vc_region ?_
   refine vp ?_
   refine vp ?_
   refine vc_y (y_fieldP fl_204_3 3 rfl rfl) rfl ?_
   refine vc_y (y_load1 0 rfl one_3 rfl (Pts.vis rfl)) rfl ?_
   refine vc_y (y_arith (m + 1) rfl (wrap64 (x := m + 1) (by omega) (by omega))) rfl ?_
   refine vp ?_
   refine vc_y (y_fieldP fl_204_3 3 rfl rfl) rfl ?_
   refine vc_storeP 0 rfl [_] [_, _, _, _] rfl rfl rfl sz_3 rfl rfl rfl ?_
   refine vc_nil ?_
   refine vc_then ?_
   refine vc_seq ?_
   refine vc_seq ?_
   refine vc_region ?_
   refine vp ?_
   refine vp ?_
   refine vc_y (y_fieldP fl_204_2 2 rfl rfl) rfl ?_
   refine vc_y (y_load1 0 rfl one_3 rfl (Pts.vis rfl)) rfl ?_
   refine vp ?_
   refine vc_nil ?_
   refine vc_then ?_
   first | refine vc_condP rfl (fun c57 => ?_) (fun c57 => ?_) | refine vc_condN rfl (fun c57 => ?_) (fun c57 => ?_) | refine vc_cond rfl (fun c57 => ?_) (fun c57 => ?_)
   ·skip
    exact absurd c57 (by show ¬ ((r : Int) < 0); omega)
   ·skip
    refine vc_skip ?_
    refine vc_then ?_
    refine vc_seq ?_
    refine vc_region ?_
    iterate 3 refine vp ?_
    refine vc_y (y_fieldP fl_204_2 2 rfl rfl) rfl ?_
    refine vc_y (y_load1 0 rfl one_3 rfl (Pts.vis rfl)) rfl ?_
    refine vp ?_
    refine vp ?_
    refine vc_callv ca_165 (us := []) (vs := []) rfl [_, _, _, _] rfl [0, 0, 0, 0] rfl (put_spec (r := some r) (m := m + 1) hlen key n fp r l1 fr1 hp) rfl ?_
    rintro _ _ ⟨hl1, hf1, hs1, ln1, rfl, rfl⟩
    obtain ⟨hc1, hhc1⟩ := getSome ln1 hdc
    refine vc_see 3 rfl ((Nodes.visK hhc1 hdc).imp fun w r => r.len) (fun ek1 => ?_)
    refine vc_see 3 rfl ((Nodes.visN hhc1 hdc).imp fun w r => r.len) (fun en1 => ?_)
    refine vc_see 3 rfl ((Nodes.visC hhc1 hdc).imp fun w r => r.len) (fun ec1 => ?_)
    refine vc_nil ?_
    refine vc_then ?_
    refine vc_seq ?_
    refine vc_seq ?_
    refine vc_draw (by kernel_rfl) _ none [0, 0] rfl ?_
    refine tpp 0 ?_
    refine tpp 1 ?_
    refine tp 2 rfl (by exact y_fieldP fl_204_0 0 rfl rfl) ?_
    refine tk 3 rfl (by exact y_load1 0 rfl one_202 rfl (Pts.vis rfl)) ?_
    refine tpp 4 ?_
    refine tpp 5 ?_
    refine tp 6 rfl (by exact y_fieldP fl_204_2 2 rfl rfl) ?_
    refine tk 7 rfl (by exact y_load1 0 rfl one_3 rfl (Pts.vis rfl)) ?_
    refine tk 8 rfl (by exact y_elem 1 rfl (Sl.vis) r rfl (getLt hhc1) sl_202 rfl rfl) ?_
    refine va_ready [9] (by kernel_rfl) rfl ?_
    refine vo_cons rfl (fun hC0 => ?_) ?_
    ·skip
     refine vc_callv ca_166 (us := []) (vs := []) rfl [_] rfl [1] rfl (size_specD (h := hc1) (d := dc) (Rd.vis1 Sl.vis hhc1 rfl) (Rd.vis1 Sl.vis hhc1 rfl) ek1 ec1) rfl ?_
     rintro _ _ ⟨rfl, rfl⟩
     refine vc_nil ?_
     refine vc_then ?_
     refine va_kept hC0 [1, 0] rfl ?_
     clear hC0
     refine tpp 10 ?_
     refine va_done (by kernel_rfl) ?_
     refine vc_then ?_
     first | refine vc_condP rfl (fun c86 => ?_) (fun c86 => ?_) | refine vc_condN rfl (fun c86 => ?_) (fun c86 => ?_) | refine vc_cond rfl (fun c86 => ?_) (fun c86 => ?_)
     ·skip
      obtain ⟨k, s, l2, fr2, k2, hsp, hA, rfl⟩ := (hcase.resolve_left (fun h0 => by omega)).2
      refine vc_seq ?_
      refine vc_region ?_
      refine vp ?_
      refine vp ?_
      refine vc_y (y_fieldP fl_204_2 2 rfl rfl) rfl ?_
      refine vc_y (y_load1 1 rfl one_3 rfl (Pts.vis rfl)) rfl ?_
      refine vp ?_
      refine vc_nil ?_
      refine vc_then ?_
      refine vc_seq ?_
      refine vc_region ?_
      refine vp ?_
      refine vp ?_
      refine vc_callv ca_167 (us := []) (vs := []) rfl [_, _] rfl [1, 0, 0, 0] rfl (split_spec (r := some r) (m := m + 1) ln1 hsp) rfl ?_
      rintro _ _ ⟨hl2, hf2, hs2, ln2, rfl, rfl⟩
      iterate 5 refine vp ?_
      refine vc_nil ?_
      refine vc_then ?_
      refine vc_region ?_
      iterate 3 refine vp ?_
      refine vc_buildSlice (E := eStr) [(0, _)] [s] rfl rfl (bs_136_1 _ rfl) rfl (fun h100 => ?_)
      refine vp ?_
      refine vp ?_
      refine vc_buildSlice (E := eNat) [(0, _), (1, _)] [r, k] rfl rfl (bs_72_2 _ _ rfl rfl) rfl (fun h103 => ?_)
      refine vc_y (y_build [(0, _), (2, _)] [_, _, _] rfl (bu_231_0_2 _ _ rfl rfl)) rfl ?_
      refine vc_ent (l' := Sl eInt nilS [] :: _) sl_new ?_
      refine vc_callv ca_164 (us := []) (vs := []) rfl [_, _] rfl [3, 3, 3, 3, 2, 0, 0] rfl (add_spec (r := some r) (m := m + 1) ln2 (h := ⟨h100, nilS, h103⟩) (d := ⟨[s], [], [r, k]⟩) hA) rfl ?_
      rintro _ _ ⟨hl3, hf3, hs3, ln3, hk3, ho3, rfl, rfl⟩
      refine vp ?_
      refine vc_y (y_fieldP fl_204_2 2 rfl rfl) rfl ?_
      refine vc_storeP 0 rfl [_] [_, _, _, _] rfl rfl rfl sz_3 rfl rfl rfl ?_
      refine vc_nil ?_
      refine vc_then ?_
      refine vc_seq ?_
      refine vc_region ?_
      iterate 3 refine vp ?_
      refine vc_nil ?_
      refine vc_then ?_
      refine vc_ret ?_
      exact vc_end3 Tryz.results130 rfl rfl rfl _ (ent_pick [0, 0, 0, 0] rfl) ⟨hl3, hf3, hs3, ln3, rfl, rfl⟩
     ·skip
      obtain ⟨_, rfl, rfl, rfl⟩ := hcase.resolve_right (fun h0 => by omega)
      refine vc_skip ?_
      refine vc_then ?_
      refine vc_seq ?_
      refine vc_region ?_
      iterate 3 refine vp ?_
      refine vc_nil ?_
      refine vc_then ?_
      refine vc_ret ?_
      exact vc_end3 Tryz.results130 rfl rfl rfl _ (ent_pick [1, 0, 0, 0] rfl) ⟨hl1, hf1, hs1, ln1, rfl, rfl⟩
    exact vo_nil
end Go.Proofs.YtcpbibdbahfgaaaGreat
set_option maxHeartbeats 4000000
namespace Go.Proofs.YtcpbibdbahfgaaaGreat
open Go.Eng
namespace FTree7
theorem fl_231_2 : Fld Tryz.prog 231 2 2 := ⟨_, _, 0, Tryz.underlying231, rfl, rfl, by kernel_rfl⟩
theorem one_72 : TyOne Tryz.prog 72 := ⟨⟨_, Tryz.underlying72, rfl⟩, by kernel_rfl⟩
theorem sl_72 : TySl Tryz.prog 72 3 1 := ⟨Tryz.underlying72, by kernel_rfl⟩
theorem one_3 : TyOne Tryz.prog 3 := ⟨⟨_, Tryz.underlying3, rfl⟩, by kernel_rfl⟩
theorem fl_204_0 : Fld Tryz.prog 204 0 0 := ⟨_, _, 0, Tryz.underlying204, rfl, rfl, by kernel_rfl⟩
theorem one_202 : TyOne Tryz.prog 202 := ⟨⟨_, Tryz.underlying202, rfl⟩, by kernel_rfl⟩
theorem sl_202 : TySl Tryz.prog 202 231 3 := ⟨Tryz.underlying202, by kernel_rfl⟩
theorem ag_231 : TyAgg Tryz.prog 231 3 := ⟨⟨_, Tryz.underlying231, rfl⟩, by kernel_rfl⟩
theorem ze_231 : (Tryz.prog.info? 231).map (·.zero) = some (some (.agg #[.slice none 0 0, .slice none 0 0, .slice none 0 0])) := by kernel_rfl
theorem sz_231 : (Tryz.prog.info? 231).map (·.size) = some 3 := by kernel_rfl
theorem ca_163 : Callable Tryz.prog 163 := ⟨_, _, Tryz.func163, rfl, rfl⟩
theorem fl_231_0 : Fld Tryz.prog 231 0 0 := ⟨_, _, 0, Tryz.underlying231, rfl, rfl, by kernel_rfl⟩
theorem one_136 : TyOne Tryz.prog 136 := ⟨⟨_, Tryz.underlying136, rfl⟩, by kernel_rfl⟩
theorem sl_136 : TySl Tryz.prog 136 9 1 := ⟨Tryz.underlying136, by kernel_rfl⟩
theorem one_9 : TyOne Tryz.prog 9 := ⟨⟨_, Tryz.underlying9, rfl⟩, by kernel_rfl⟩
theorem sz_9 : (Tryz.prog.info? 9).map (·.size) = some 1 := by kernel_rfl
theorem ze_9 : (Tryz.prog.info? 9).map (·.zero) = some (some (.string ⟨#[]⟩)) := by kernel_rfl
theorem bs_136_1 (v0 : Value) (h0 : v0.cells = #[v0]) (w : World) : (Instr.buildSlice 136 1 #[(0, v0)]).run Tryz.prog w = .ok (.slice (some ⟨w.heap.size, 0, none⟩) 1 1) { w with heap := w.heap.push (.cells #[v0] 9 (0, 0)) } :=
 Go.Eng.run_buildSlice Tryz.underlying136 sz_9 ze_9 (by decide) (by rw [show Array.range (1 * 1) = #[0] from by decide]; simp [Instr.fill, cells_agg, h0]) w
theorem el_136_eStr : TyEl Tryz.prog 136 eStr 16 := ⟨Tryz.underlying136, .string ⟨#[]⟩, by kernel_rfl, rfl⟩
theorem sz_136 : (Tryz.prog.info? 136).map (·.size) = some 1 := by kernel_rfl
theorem fl_231_1 : Fld Tryz.prog 231 1 1 := ⟨_, _, 0, Tryz.underlying231, rfl, rfl, by kernel_rfl⟩
theorem el_72_eInt : TyEl Tryz.prog 72 eInt 8 := ⟨Tryz.underlying72, .int .i64 0, by kernel_rfl, rfl⟩
theorem el_72_eNat : TyEl Tryz.prog 72 eNat 8 := ⟨Tryz.underlying72, .int .i64 0, by kernel_rfl, rfl⟩
theorem sz_72 : (Tryz.prog.info? 72).map (·.size) = some 1 := by kernel_rfl
theorem ca_190 : Callable Tryz.prog 190 := ⟨_, _, Tryz.func190, rfl, rfl⟩
theorem ca_191 : Callable Tryz.prog 191 := ⟨_, _, Tryz.func191, rfl, rfl⟩
theorem ca_162 : Callable Tryz.prog 162 := ⟨_, _, Tryz.func162, rfl, rfl⟩
end FTree7
open FTree7
theorem getX {hs : List Nd3} {l : List Nd} (hlen : hs.length = l.length) {i : Nat} {d : Nd} (h : l[i]? = some d) : ∃ x, hs[i]? = some x := getSome hlen h
theorem join_spec {b : Nat} {l : List Nd} {fr : List Nat} {r : Option Nat} {m : Int} {hl hf : SH} {hs : List Nd3} (hlen : hs.length = l.length) {x w p q : Nat} {d dp dq : Nd} {s : ByteArray} (hC : MendC l x w d dp dq p q s) (hfr : fr.length ≤ 1000000) :
  Does Tryz.prog 220 [.pointer (some ⟨b, 0, none⟩), .pointer (some (eAd hl 3 x 0)), .int .i64 (w : Int)] (TO b ⟨l, fr, r, m⟩ hl hf hs) (fun v l2 => ∃ hf' hs', hs'.length = (((l.set p (joinA dp dq s)).set x (joinX d w)).set q nd0).length ∧ (∀ j, j ≠ x → j ≠ p → j ≠ q → hs'[j]? = hs[j]?) ∧ v = .tuple #[] ∧ l2 = TO b ⟨((l.set p (joinA dp dq s)).set x (joinX d w)).set q nd0, fr ++ [q], r, m⟩ hl hf' hs') := by
 refine spec_of Tryz.func220 rfl Tryz.ntmps220 Tryz.results220 _ (by simp) fun ι F => ?_
 obtain ⟨hd, hg, ha, hb, hdp, hdq, hgp, hgq, hw, hs0, hxp, hxq, hpq⟩ := hC
 have hwk := getLt hb
 obtain ⟨hx, hhx⟩ := getX hlen hd
 obtain ⟨hp, hhp⟩ := getX hlen hdp
 obtain ⟨hq, hhq⟩ := getX hlen hdq
 obtain ⟨hgr, hgk, hgn, hgc⟩ := hg
 obtain ⟨pgr, pgk, pgn, pgc⟩ := hgp
 obtain ⟨qgr, qgk, qgn, qgc⟩ := hgq
 refine vc_openN 3 rfl hhp hdp ?_
 refine vc_see 0 rfl (Sl.vis.imp fun w r => (⟨r.len, r.cap⟩ : hp.k.len = dp.keys.length ∧ dp.keys.length ≤ hp.k.cap)) (fun ekp => ?_)
 refine vc_see 1 rfl (Sl.vis.imp fun w r => (⟨r.len, r.cap⟩ : hp.n.len = dp.nums.length ∧ dp.nums.length ≤ hp.n.cap)) (fun enp => ?_)
 refine vc_see 2 rfl (Sl.vis.imp fun w r => (⟨r.len, r.cap⟩ : hp.c.len = dp.kids.length ∧ dp.kids.length ≤ hp.c.cap)) (fun ecp => ?_)
 have hxno : x ∉ [p] := by simp; omega
 have hqno : q ∉ [p] := by simp; omega
 refine vc_see 3 rfl ((NodesX.visK hxno hhx hd).imp fun w r => (⟨r.len, r.cap⟩ : hx.k.len = d.keys.length ∧ d.keys.length ≤ hx.k.cap)) (fun ekx => ?_)
 refine vc_see 3 rfl ((NodesX.visN hxno hhx hd).imp fun w r => (⟨r.len, r.cap⟩ : hx.n.len = d.nums.length ∧ d.nums.length ≤ hx.n.cap)) (fun enx => ?_)
 refine vc_see 3 rfl ((NodesX.visC hxno hhx hd).imp fun w r => (⟨r.len, r.cap⟩ : hx.c.len = d.kids.length ∧ d.kids.length ≤ hx.c.cap)) (fun ecx => ?_)
 refine vc_see 3 rfl ((NodesX.visK hqno hhq hdq).imp fun w r => (⟨r.len, r.cap⟩ : hq.k.len = dq.keys.length ∧ dq.keys.length ≤ hq.k.cap)) (fun ekq => ?_)
 refine vc_see 3 rfl ((NodesX.visN hqno hhq hdq).imp fun w r => (⟨r.len, r.cap⟩ : hq.n.len = dq.nums.length ∧ dq.nums.length ≤ hq.n.cap)) (fun enq => ?_)
 refine vc_see 3 rfl ((NodesX.visC hqno hhq hdq).imp fun w r => (⟨r.len, r.cap⟩ : hq.c.len = dq.kids.length ∧ dq.kids.length ≤ hq.c.cap)) (fun ecq => ?_)
 refine vc_seq ?_
 refine vc_region ?_
 refine vp ?_
 refine vp ?_
 refine vc_y (y_fieldE fl_231_2 2 rfl rfl) rfl ?_
 refine vc_y (y_load1 5 rfl one_72 rfl (Rd.vis1 (Sl.vis) hhx rfl)) rfl ?_
 refine vp ?_
 refine vc_y (y_elem 3 rfl (NodesX.visC hxno hhx hd) w rfl (getLt hb) sl_72 rfl rfl) rfl ?_
 refine vc_y (y_load1 3 rfl one_3 rfl (Rd.vis1 (NodesX.visC hxno hhx hd) hb rfl)) rfl ?_
 refine vp ?_
 refine vc_nil ?_
 refine vc_then ?_
 refine vc_seq ?_
 refine vc_draw (by kernel_rfl) _ none [4, 4, 3] rfl ?_
 refine tpp 0 ?_
 refine tpp 1 ?_
 refine tp 2 rfl (by exact y_fieldP fl_204_0 0 rfl rfl) ?_
 refine tk 3 rfl (by exact y_load1 0 rfl one_202 rfl (Pts.vis rfl)) ?_
 refine tpp 4 ?_
 refine tpp 5 ?_
 refine tp 6 rfl (by exact y_fieldE fl_231_2 2 rfl rfl) ?_
 refine tk 7 rfl (by exact y_load1 1 rfl one_72 rfl (Rd.vis1 (Sl.vis) hhx rfl)) ?_
 refine tpp 8 ?_
 refine tp 9 rfl (by exact y_arith ((w - 1 : Nat) : Int) rfl (wrapNsub (by omega))) ?_
 refine tk 10 rfl (by exact y_elem 2 rfl (NodesX.visC hxno hhx hd) (w - 1) rfl (getLt ha) sl_72 rfl rfl) ?_
 refine tk 11 rfl (by exact y_load1 2 rfl one_3 rfl (Rd.vis1 (NodesX.visC hxno hhx hd) ha rfl)) ?_
 refine tk 12 rfl (by exact y_elem 1 rfl (Sl.vis) p rfl (getLt hhp) sl_202 rfl rfl) ?_
 refine tpp 13 ?_
 refine tpp 14 ?_
 refine tp 15 rfl (by exact y_fieldP fl_204_0 0 rfl rfl) ?_
 refine tk 16 rfl (by exact y_load1 0 rfl one_202 rfl (Pts.vis rfl)) ?_
 refine tpp 17 ?_
 refine tk 18 rfl (by exact y_elem 1 rfl (Sl.vis) q rfl (getLt hhq) sl_202 rfl rfl) ?_
 refine tk 19 rfl (by exact y_loadA 1 rfl (cs := [_, _, _]) ag_231 rfl (Rd.visA (Sl.vis) hhq rfl)) ?_
 refine va_ready [20] (by kernel_rfl) rfl ?_
 refine vo_cons rfl (fun hC0 => ?_) ?_
 ·skip
  refine vc_alloc [.slice none 0 0, .slice none 0 0, .slice none 0 0] ze_231 rfl rfl (fun b8 => ?_)
  refine vc_nil ?_
  refine vc_then ?_
  refine va_kept hC0 [5, 5, 4] rfl ?_
  clear hC0
  refine tpp 21 ?_
  refine va_ready [22] (by kernel_rfl) rfl ?_
  refine vo_cons rfl (fun hC0 => ?_) ?_
  ·skip
   refine vc_storeP 0 rfl [_, _, _] [_, _, _] rfl rfl rfl sz_231 rfl rfl rfl ?_
   refine vc_nil ?_
   refine vc_then ?_
   refine va_kept hC0 [5, 5, 4] rfl ?_
   clear hC0
   refine va_done (by kernel_rfl) ?_
   refine vc_then ?_
   refine vc_seq ?_
   refine vc_cut (α := SH × List Nd3) (fun xq_ => match xq_ with | (g, hs1) => [(0, .pointer (some ⟨b, 0, none⟩)), (1, .pointer (some (eAd hl 3 x 0))), (2, .int .i64 (w : Int)), (6, .int .i64 (q : Int)), (7, .pointer (some (eAd hl 3 p 0))), (8, .pointer (some ⟨b8, 0, none⟩))]) (fun xq_ => match xq_ with | (g, hs1) => [Pts b8 [hq.k.v, hq.n.v, hq.c.v] 231, Sl eStr g (if dp.kids = [] then dp.keys else dp.keys ++ [s]), Sl eInt hp.n dp.nums, Sl eNat hp.c dp.kids, NodesX [p] hs l, Pts b [hl.v, hf.v, .int .i64 (rootV r), .int .i64 m] 204, Sl eNode hl hs1, Sl eNat hf fr]) (fun xq_ => match xq_ with | (g, hs1) => hs1.length = l.length ∧ hs1[p]? = some ⟨g, hp.n, hp.c⟩ ∧ ∀ j, j ≠ p → hs1[j]? = hs[j]?) ?_ ?_
   ·skip
    refine vc_seq ?_
    refine vc_region ?_
    refine vp ?_
    refine vc_callv ca_163 (us := []) (vs := []) rfl [_] rfl [6] rfl (leaf_specD (h := hp) (d := dp) (Rd.vis1 Sl.vis hhp rfl) ecp.1) rfl ?_
    rintro _ _ ⟨rfl, rfl⟩
    refine vp ?_
    refine vc_nil ?_
    refine vc_then ?_
    first | refine vc_condP rfl (fun c38 => ?_) (fun c38 => ?_) | refine vc_condN rfl (fun c38 => ?_) (fun c38 => ?_) | refine vc_cond rfl (fun c38 => ?_) (fun c38 => ?_)
    ·skip
     have hpk : dp.kids ≠ [] := by simpa using c38
     refine vc_draw (by kernel_rfl) _ (some 17) [0, 4] rfl ?_
     refine tpp 0 ?_
     refine tpp 1 ?_
     refine tpp 2 ?_
     refine tp 3 rfl (by exact y_fieldE fl_231_0 0 rfl rfl) ?_
     refine tk 4 rfl (by exact y_load1 0 rfl one_136 rfl (Rd.vis1 (Sl.vis) hhp rfl)) ?_
     refine tpp 5 ?_
     refine tpp 6 ?_
     refine tp 7 rfl (by exact y_fieldE fl_231_0 0 rfl rfl) ?_
     refine tk 8 rfl (by exact y_load1 0 rfl one_136 rfl (Rd.vis1 (Sl.vis) hhx rfl)) ?_
     refine tpp 9 ?_
     refine tp 10 rfl (by exact y_arith ((w - 1 : Nat) : Int) rfl (wrapNsub (by omega))) ?_
     refine tk 11 rfl (by exact y_elem 1 rfl (NodesX.visK hxno hhx hd) (w - 1) rfl (getLt hs0) sl_136 rfl rfl) ?_
     refine tk 12 rfl (by exact y_load1 1 rfl one_9 rfl (Rd.vis1 (NodesX.visK hxno hhx hd) hs0 rfl)) ?_
     refine va_ready [13] (by kernel_rfl) rfl ?_
     refine vo_cons rfl (fun hC0 => ?_) ?_
     ·skip
      refine vc_buildSlice (E := eStr) [(0, _)] [s] rfl rfl (bs_136_1 _ rfl) rfl (fun h52 => ?_)
      refine vc_nil ?_
      refine vc_then ?_
      refine va_kept hC0 [1, 5] rfl ?_
      clear hC0
      refine va_ready [14] (by kernel_rfl) rfl ?_
      refine vo_cons rfl (fun hC0 => ?_) ?_
      ·skip
       refine vc_append 3 rfl 0 rfl (Sl.vis) el_136_eStr Tryz.underlying136 rfl rfl (by simp; omega) (by simp; omega) rfl (fun h53 => ?_)
       refine vc_nil ?_
       refine vc_then ?_
       refine va_kept hC0 [1, 5] rfl ?_
       clear hC0
       refine tpp 15 ?_
       refine tp 16 rfl (by exact y_fieldE fl_231_0 0 rfl rfl) ?_
       refine va_ready [17] (by kernel_rfl) rfl ?_
       refine vo_cons rfl (fun hC0 => ?_) ?_
       ·skip
        refine vc_storeE 1 rfl [_] ⟨h53, hp.n, hp.c⟩ rfl rfl rfl sz_136 rfl hhp (Nat.le_of_ble_eq_true rfl) rfl ?_
        refine vc_nil ?_
        refine vc_then ?_
        refine va_gone hC0 (by kernel_rfl) ?_
        clear hC0
        refine va_done (by kernel_rfl) ?_
        refine vc_then ?_
        exact vc_met (h53, hs.set p ⟨h53, hp.n, hp.c⟩) ⟨by rw [List.length_set]; exact hlen, List.getElem?_set_self (getLt hhp), fun j hj => List.getElem?_set_ne (Ne.symm hj)⟩ ⟨rfl, rfl, rfl, rfl, rfl, rfl, trivial⟩ (by rw [if_neg hpk]; exact ent_pick [2, 2, 2, 2, 2, 2, 1, 1] rfl)
       exact vo_nil
      exact vo_nil
     exact vo_nil
    ·skip
     have hpk : dp.kids = [] := by simpa using c38
     refine vc_skip ?_
     refine vc_then ?_
     exact vc_met (hp.k, hs) ⟨hlen, hhp, fun j hj => rfl⟩ ⟨rfl, rfl, rfl, rfl, rfl, rfl, trivial⟩ (by rw [if_pos hpk]; exact ent_pick [1, 1, 1, 1, 1, 1, 0, 0] rfl)
   rintro ⟨g, hs1⟩ ⟨ln1, hg1, ho1⟩
   show VC _ _ _ _ [(0, .pointer (some ⟨b, 0, none⟩)), (1, .pointer (some (eAd hl 3 x 0))), (2, .int .i64 (w : Int)), (6, .int .i64 (q : Int)), (7, .pointer (some (eAd hl 3 p 0))), (8, .pointer (some ⟨b8, 0, none⟩))] ([Pts b8 [hq.k.v, hq.n.v, hq.c.v] 231, Sl eStr g (if dp.kids = [] then dp.keys else dp.keys ++ [s]), Sl eInt hp.n dp.nums, Sl eNat hp.c dp.kids, NodesX [p] hs l, Pts b [hl.v, hf.v, .int .i64 (rootV r), .int .i64 m] 204, Sl eNode hl hs1, Sl eNat hf fr])
   have hka : ((if dp.kids = [] then dp.keys else dp.keys ++ [s])).length ≤ 1001 := by split <;> (try simp) <;> omega
   refine vc_seq ?_
   refine vc_draw (by kernel_rfl) _ (some 26) [0, 5] rfl ?_
   refine tpp 0 ?_
   refine tpp 1 ?_
   refine tpp 2 ?_
   refine tpp 3 ?_
   refine tpp 4 ?_
   refine tp 5 rfl (by exact y_fieldE fl_231_0 0 rfl rfl) ?_
   refine tk 6 rfl (by exact y_load1 1 rfl one_136 rfl (Rd.vis1 (Sl.vis) hg1 rfl)) ?_
   refine tp 7 rfl (by exact y_fieldP fl_231_0 0 rfl rfl) ?_
   refine tk 8 rfl (by exact y_load1 0 rfl one_136 rfl (Pts.vis rfl)) ?_
   refine tpp 10 ?_
   refine tpp 11 ?_
   refine tp 12 rfl (by exact y_fieldE fl_231_1 1 rfl rfl) ?_
   refine tk 13 rfl (by exact y_load1 1 rfl one_72 rfl (Rd.vis1 (Sl.vis) hg1 rfl)) ?_
   refine tp 14 rfl (by exact y_fieldP fl_231_1 1 rfl rfl) ?_
   refine tk 15 rfl (by exact y_load1 0 rfl one_72 rfl (Pts.vis rfl)) ?_
   refine tpp 17 ?_
   refine tpp 18 ?_
   refine tp 19 rfl (by exact y_fieldE fl_231_2 2 rfl rfl) ?_
   refine tk 20 rfl (by exact y_load1 1 rfl one_72 rfl (Rd.vis1 (Sl.vis) hg1 rfl)) ?_
   refine tp 21 rfl (by exact y_fieldP fl_231_2 2 rfl rfl) ?_
   refine tk 22 rfl (by exact y_load1 0 rfl one_72 rfl (Pts.vis rfl)) ?_
   refine va_ready [9] (by kernel_rfl) rfl ?_
   refine vo_cons rfl (fun hC0 => ?_) ?_
   ·skip
    refine vc_append 1 rfl 4 rfl (NodesX.visK hqno hhq hdq) el_136_eStr Tryz.underlying136 rfl rfl (by omega) (by omega) rfl (fun h65 => ?_)
    refine vc_nil ?_
    refine vc_then ?_
    refine va_kept hC0 [0, 5] rfl ?_
    clear hC0
    refine va_ready [16] (by kernel_rfl) rfl ?_
    refine vo_cons rfl (fun hC0 => ?_) ?_
    ·skip
     refine vc_append 2 rfl 4 rfl (NodesX.visN hqno hhq hdq) el_72_eInt Tryz.underlying72 rfl rfl (by omega) (by omega) rfl (fun h72 => ?_)
     refine vc_nil ?_
     refine vc_then ?_
     refine va_kept hC0 [0, 5] rfl ?_
     clear hC0
     refine va_ready [23] (by kernel_rfl) rfl ?_
     refine vo_cons rfl (fun hC0 => ?_) ?_
     ·skip
      refine vc_append 3 rfl 4 rfl (NodesX.visC hqno hhq hdq) el_72_eNat Tryz.underlying72 rfl rfl (by omega) (by omega) rfl (fun h79 => ?_)
      refine vc_nil ?_
      refine vc_then ?_
      refine va_kept hC0 [0, 5] rfl ?_
      clear hC0
      refine tpp 24 ?_
      refine tp 25 rfl (by exact y_fieldE fl_231_0 0 rfl rfl) ?_
      refine va_ready [26] (by kernel_rfl) rfl ?_
      refine vo_cons rfl (fun hC0 => ?_) ?_
      ·skip
       refine vc_storeE 6 rfl [_] ⟨h65, hp.n, hp.c⟩ rfl rfl rfl sz_136 rfl hg1 (Nat.le_of_ble_eq_true rfl) rfl ?_
       refine vc_nil ?_
       refine vc_then ?_
       refine va_gone hC0 (by kernel_rfl) ?_
       clear hC0
       refine va_ready [27] (by kernel_rfl) rfl ?_
       refine vo_cons rfl (fun hC0 => ?_) ?_
       ·skip
        refine vp ?_
        refine vc_nil ?_
        refine vc_then ?_
        refine va_gone hC0 (by kernel_rfl) ?_
        clear hC0
        refine va_ready [28] (by kernel_rfl) rfl ?_
        refine vo_cons rfl (fun hC0 => ?_) ?_
        ·skip
         refine vc_y (y_fieldE fl_231_1 1 rfl rfl) rfl ?_
         refine vc_nil ?_
         refine vc_then ?_
         refine va_gone hC0 (by kernel_rfl) ?_
         clear hC0
         refine va_ready [29] (by kernel_rfl) rfl ?_
         refine vo_cons rfl (fun hC0 => ?_) ?_
         ·skip
          refine vc_storeE 6 rfl [_] ⟨h65, h72, hp.c⟩ rfl rfl rfl sz_72 rfl (List.getElem?_set_self (getLt hg1)) (Nat.le_of_ble_eq_true rfl) rfl ?_
          refine vc_nil ?_
          refine vc_then ?_
          refine va_gone hC0 (by kernel_rfl) ?_
          clear hC0
          refine va_ready [30] (by kernel_rfl) rfl ?_
          refine vo_cons rfl (fun hC0 => ?_) ?_
          ·skip
           refine vp ?_
           refine vc_nil ?_
           refine vc_then ?_
           refine va_gone hC0 (by kernel_rfl) ?_
           clear hC0
           refine va_ready [31] (by kernel_rfl) rfl ?_
           refine vo_cons rfl (fun hC0 => ?_) ?_
           ·skip
            refine vc_y (y_fieldE fl_231_2 2 rfl rfl) rfl ?_
            refine vc_nil ?_
            refine vc_then ?_
            refine va_gone hC0 (by kernel_rfl) ?_
            clear hC0
            refine va_ready [32] (by kernel_rfl) rfl ?_
            refine vo_cons rfl (fun hC0 => ?_) ?_
            ·skip
             refine vc_storeE 6 rfl [_] ⟨h65, h72, h79⟩ rfl rfl rfl sz_72 rfl (List.getElem?_set_self (by rw [List.length_set]; exact getLt hg1)) (Nat.le_of_ble_eq_true rfl) rfl ?_
             refine vc_nil ?_
             refine vc_then ?_
             refine va_gone hC0 (by kernel_rfl) ?_
             clear hC0
             refine va_done (by kernel_rfl) ?_
             refine vc_then ?_
             refine vc_seq ?_
             obtain ⟨hs2, ehs2⟩ : ∃ z, z = ((hs1.set p ⟨h65, hp.n, hp.c⟩).set p ⟨h65, h72, hp.c⟩).set p ⟨h65, h72, h79⟩ := ⟨_, rfl⟩
             rw [← ehs2]
             have ln2 : hs2.length = l.length := by rw [ehs2]; simp [ln1]
             have hp2 : hs2[p]? = some ⟨h65, h72, h79⟩ := by rw [ehs2]; exact List.getElem?_set_self (by simp; exact getLt hg1)
             have ho2 : ∀ j, j ≠ p → hs2[j]? = hs[j]? := fun j hj => by rw [ehs2, List.getElem?_set_ne (Ne.symm hj), List.getElem?_set_ne (Ne.symm hj), List.getElem?_set_ne (Ne.symm hj)]; exact ho1 j hj
             have hhx2 : hs2[x]? = some hx := by rw [ho2 x hxp]; exact hhx
             refine vc_openX 4 rfl (ho := [p]) (by simp; omega) hhx hd ?_
             refine vc_draw (by kernel_rfl) _ (some 20) [9] rfl ?_
             refine tpp 0 ?_
             refine tpp 1 ?_
             refine tpp 2 ?_
             refine tpp 3 ?_
             refine tp 4 rfl (by exact y_fieldE fl_231_0 0 rfl rfl) ?_
             refine tk 5 rfl (by exact y_load1 0 rfl one_136 rfl (Rd.vis1 (Sl.vis) hhx2 rfl)) ?_
             refine tpp 6 ?_
             refine tp 7 rfl (by exact y_arith ((w - 1 : Nat) : Int) rfl (wrapNsub (by omega))) ?_
             refine tpp 8 ?_
             refine tpp 10 ?_
             refine tpp 11 ?_
             refine tp 12 rfl (by exact y_fieldE fl_231_2 2 rfl rfl) ?_
             refine tk 13 rfl (by exact y_load1 0 rfl one_72 rfl (Rd.vis1 (Sl.vis) hhx2 rfl)) ?_
             refine tpp 14 ?_
             refine tpp 15 ?_
             refine tp 16 rfl (by exact y_arith ((w + 1 : Nat) : Int) rfl (wrapNadd (by have := getLt hb; omega))) ?_
             refine va_ready [9] (by kernel_rfl) rfl ?_
             refine vo_cons rfl (fun hC0 => ?_) ?_
             ·skip
              refine vc_callv ca_190 (us := []) (vs := []) rfl [_, _, _] rfl [0] rfl (delS_spec (i := w - 1) (j := w) (by omega) (by have := getLt hs0; omega) (by omega)) rfl ?_
              rintro _ _ ⟨h95, rfl, rfl⟩
              refine vc_nil ?_
              refine vc_then ?_
              refine va_kept hC0 [9] rfl ?_
              clear hC0
              refine va_ready [17] (by kernel_rfl) rfl ?_
              refine vo_cons rfl (fun hC0 => ?_) ?_
              ·skip
               refine vc_callv ca_191 (us := []) (vs := []) rfl [_, _, _] rfl [2] rfl (delN_spec (i := w) (j := w + 1) (by omega) (by have := getLt hb; omega) (by omega)) rfl ?_
               rintro _ _ ⟨h103, rfl, rfl⟩
               refine vc_nil ?_
               refine vc_then ?_
               refine va_kept hC0 [9] rfl ?_
               clear hC0
               refine tpp 18 ?_
               refine tp 19 rfl (by exact y_fieldE fl_231_0 0 rfl rfl) ?_
               refine va_ready [20] (by kernel_rfl) rfl ?_
               refine vo_cons rfl (fun hC0 => ?_) ?_
               ·skip
                refine vc_storeE 9 rfl [_] ⟨h95, hx.n, hx.c⟩ rfl rfl rfl sz_136 rfl hhx2 (Nat.le_of_ble_eq_true rfl) rfl ?_
                refine vc_nil ?_
                refine vc_then ?_
                refine va_gone hC0 (by kernel_rfl) ?_
                clear hC0
                refine va_ready [21] (by kernel_rfl) rfl ?_
                refine vo_cons rfl (fun hC0 => ?_) ?_
                ·skip
                 refine vp ?_
                 refine vc_nil ?_
                 refine vc_then ?_
                 refine va_gone hC0 (by kernel_rfl) ?_
                 clear hC0
                 refine va_ready [22] (by kernel_rfl) rfl ?_
                 refine vo_cons rfl (fun hC0 => ?_) ?_
                 ·skip
                  refine vc_y (y_fieldE fl_231_2 2 rfl rfl) rfl ?_
                  refine vc_nil ?_
                  refine vc_then ?_
                  refine va_gone hC0 (by kernel_rfl) ?_
                  clear hC0
                  refine va_ready [23] (by kernel_rfl) rfl ?_
                  refine vo_cons rfl (fun hC0 => ?_) ?_
                  ·skip
                   refine vc_storeE 9 rfl [_] ⟨h95, hx.n, h103⟩ rfl rfl rfl sz_72 rfl (List.getElem?_set_self (getLt hhx2)) (Nat.le_of_ble_eq_true rfl) rfl ?_
                   refine vc_nil ?_
                   refine vc_then ?_
                   refine va_gone hC0 (by kernel_rfl) ?_
                   clear hC0
                   refine va_done (by kernel_rfl) ?_
                   refine vc_then ?_
                   refine vc_region ?_
                   have hpx : p ≠ x := Ne.symm hxp
                   have k1 : ((hs2.set x ⟨h95, hx.n, hx.c⟩).set x ⟨h95, hx.n, h103⟩)[x]? = some ⟨h95, hx.n, h103⟩ := List.getElem?_set_self (by rw [List.length_set]; exact getLt hhx2)
                   have k2 : ((hs2.set x ⟨h95, hx.n, hx.c⟩).set x ⟨h95, hx.n, h103⟩)[p]? = some ⟨h65, h72, h79⟩ := by rw [List.getElem?_set_ne hxp, List.getElem?_set_ne hxp]; exact hp2
                   have k3 : ∀ j, j ≠ x → j ≠ p → ((hs2.set x ⟨h95, hx.n, hx.c⟩).set x ⟨h95, hx.n, h103⟩)[j]? = hs[j]? := fun j h1 h2 => by rw [List.getElem?_set_ne (Ne.symm h1), List.getElem?_set_ne (Ne.symm h1)]; exact ho2 j h2
                   have k4 : ((l.set p (joinA dp dq s)).set x (joinX d w))[x]? = some (joinX d w) := List.getElem?_set_self (by rw [List.length_set]; exact getLt hd)
                   have k5 : ((l.set p (joinA dp dq s)).set x (joinX d w))[p]? = some (joinA dp dq s) := by rw [List.getElem?_set_ne hxp]; exact List.getElem?_set_self (getLt hdp)
                   have k6 : ∀ j, j ≠ x → j ≠ p → ((l.set p (joinA dp dq s)).set x (joinX d w))[j]? = l[j]? := fun j h1 h2 => by rw [List.getElem?_set_ne (Ne.symm h1), List.getElem?_set_ne (Ne.symm h2)]
                   have k7 : ((hs2.set x ⟨h95, hx.n, hx.c⟩).set x ⟨h95, hx.n, h103⟩).length = ((l.set p (joinA dp dq s)).set x (joinX d w)).length := by simp [ln2]
                   obtain ⟨hs3, ehs3⟩ : ∃ z, z = ((hs2.set x ⟨h95, hx.n, hx.c⟩).set x ⟨h95, hx.n, h103⟩) := ⟨_, rfl⟩
                   obtain ⟨l3, el3⟩ : ∃ z, z = ((l.set p (joinA dp dq s)).set x (joinX d w)) := ⟨_, rfl⟩
                   rw [← ehs3] at k1 k2 k3 k7 ⊢
                   rw [← el3] at k4 k5 k6 k7 ⊢
                   refine vc_ent (l' := TO b ⟨l3, fr, r, m⟩ hl hf hs3) (ent_at [1, 1, 0, 0, 1, 1, 1, 1, 1, 1] rfl ?_) ?_
                   ·refine (ent_closeX (ho := [p]) (hs' := hs3) (ds' := l3) ⟨h95, hx.n, h103⟩ (joinX d w) hxno k1 k4 (by rw [el3]; simp) (fun j h1 h2 => k3 j h1 (by simpa using h2)) (fun j h1 h2 => k6 j h1 (by simpa using h2))).trans ?_
                    refine (ent_pick [1, 1, 1, 0, 0, 0, 0] rfl).trans ?_
                    refine (ent_closeN (hs' := hs3) (ds' := l3) ⟨h65, h72, h79⟩ (joinA dp dq s) k2 k5 rfl (fun j _ => rfl) (fun j _ => rfl)).trans ?_
                    exact ent_pick [1, 1, 1, 0] rfl
                   refine vp ?_
                   refine vp ?_
                   refine vc_callv ca_162 (us := []) (vs := []) rfl [_, _] rfl [0, 0, 0, 0] rfl (drop_spec k7 (i := q) (by rw [el3]; simp; exact getLt hdq) hfr) rfl ?_
                   rintro _ _ ⟨hf', hs', lnf, hof, rfl, rfl⟩
                   refine vc_nil ?_
                   exact vc_end0n Tryz.results220 _ (ent_pick [0, 0, 0, 0] rfl) ⟨hf', hs', by rw [lnf, List.length_set], fun j h1 h2 h3 => by rw [hof j h3]; exact k3 j h1 h2, rfl, rfl⟩
                  exact vo_nil
                 exact vo_nil
                exact vo_nil
               exact vo_nil
              exact vo_nil
             exact vo_nil
            exact vo_nil
           exact vo_nil
          exact vo_nil
         exact vo_nil
        exact vo_nil
       exact vo_nil
      exact vo_nil
     exact vo_nil
    exact vo_nil
   exact vo_nil
  exact vo_nil
 exact vo_nil
end Go.Proofs.YtcpbibdbahfgaaaGreat
namespace Go.Proofs.YtcpbibdbahfgaaaGreat
open Go.Eng
namespace FTree8
theorem fl_204_0 : Fld Tryz.prog 204 0 0 := ⟨_, _, 0, Tryz.underlying204, rfl, rfl, by kernel_rfl⟩
theorem one_202 : TyOne Tryz.prog 202 := ⟨⟨_, Tryz.underlying202, rfl⟩, by kernel_rfl⟩
theorem fl_231_2 : Fld Tryz.prog 231 2 2 := ⟨_, _, 0, Tryz.underlying231, rfl, rfl, by kernel_rfl⟩
theorem one_72 : TyOne Tryz.prog 72 := ⟨⟨_, Tryz.underlying72, rfl⟩, by kernel_rfl⟩
theorem sl_72 : TySl Tryz.prog 72 3 1 := ⟨Tryz.underlying72, by kernel_rfl⟩
theorem one_3 : TyOne Tryz.prog 3 := ⟨⟨_, Tryz.underlying3, rfl⟩, by kernel_rfl⟩
theorem sl_202 : TySl Tryz.prog 202 231 3 := ⟨Tryz.underlying202, by kernel_rfl⟩
theorem ca_166 : Callable Tryz.prog 166 := ⟨_, _, Tryz.func166, rfl, rfl⟩
theorem ca_220 : Callable Tryz.prog 220 := ⟨_, _, Tryz.func220, rfl, rfl⟩
theorem ca_163 : Callable Tryz.prog 163 := ⟨_, _, Tryz.func163, rfl, rfl⟩
theorem fl_231_0 : Fld Tryz.prog 231 0 0 := ⟨_, _, 0, Tryz.underlying231, rfl, rfl, by kernel_rfl⟩
theorem one_136 : TyOne Tryz.prog 136 := ⟨⟨_, Tryz.underlying136, rfl⟩, by kernel_rfl⟩
theorem sl_136 : TySl Tryz.prog 136 9 1 := ⟨Tryz.underlying136, by kernel_rfl⟩
theorem one_9 : TyOne Tryz.prog 9 := ⟨⟨_, Tryz.underlying9, rfl⟩, by kernel_rfl⟩
theorem sz_9 : (Tryz.prog.info? 9).map (·.size) = some 1 := by kernel_rfl
theorem ze_9 : (Tryz.prog.info? 9).map (·.zero) = some (some (.string ⟨#[]⟩)) := by kernel_rfl
theorem bs_136_1 (v0 : Value) (h0 : v0.cells = #[v0]) (w : World) : (Instr.buildSlice 136 1 #[(0, v0)]).run Tryz.prog w = .ok (.slice (some ⟨w.heap.size, 0, none⟩) 1 1) { w with heap := w.heap.push (.cells #[v0] 9 (0, 0)) } :=
 Go.Eng.run_buildSlice Tryz.underlying136 sz_9 ze_9 (by decide) (by rw [show Array.range (1 * 1) = #[0] from by decide]; simp [Instr.fill, cells_agg, h0]) w
theorem el_136_eStr : TyEl Tryz.prog 136 eStr 16 := ⟨Tryz.underlying136, .string ⟨#[]⟩, by kernel_rfl, rfl⟩
theorem sz_136 : (Tryz.prog.info? 136).map (·.size) = some 1 := by kernel_rfl
theorem ze_136 : (Tryz.prog.info? 136).map (·.zero) = some (some (.slice none 0 0)) := by kernel_rfl
theorem bs_295_2 (v0 : Value) (v1 : Value) (h0 : v0.cells = #[v0]) (h1 : v1.cells = #[v1]) (w : World) : (Instr.buildSlice 295 2 #[(0, v0), (1, v1)]).run Tryz.prog w = .ok (.slice (some ⟨w.heap.size, 0, none⟩) 2 2) { w with heap := w.heap.push (.cells #[v0, v1] 136 (0, 0)) } :=
 Go.Eng.run_buildSlice Tryz.underlying295 sz_136 ze_136 (by decide) (by rw [show Array.range (2 * 1) = #[0, 1] from by decide]; simp [Instr.fill, cells_agg, h0, h1]) w
theorem ca_221 : Callable Tryz.prog 221 := ⟨_, _, Tryz.func221, rfl, rfl⟩
theorem fl_231_1 : Fld Tryz.prog 231 1 1 := ⟨_, _, 0, Tryz.underlying231, rfl, rfl, by kernel_rfl⟩
theorem sz_72 : (Tryz.prog.info? 72).map (·.size) = some 1 := by kernel_rfl
theorem ze_72 : (Tryz.prog.info? 72).map (·.zero) = some (some (.slice none 0 0)) := by kernel_rfl
theorem bs_297_2 (v0 : Value) (v1 : Value) (h0 : v0.cells = #[v0]) (h1 : v1.cells = #[v1]) (w : World) : (Instr.buildSlice 297 2 #[(0, v0), (1, v1)]).run Tryz.prog w = .ok (.slice (some ⟨w.heap.size, 0, none⟩) 2 2) { w with heap := w.heap.push (.cells #[v0, v1] 72 (0, 0)) } :=
 Go.Eng.run_buildSlice Tryz.underlying297 sz_72 ze_72 (by decide) (by rw [show Array.range (2 * 1) = #[0, 1] from by decide]; simp [Instr.fill, cells_agg, h0, h1]) w
theorem ca_222 : Callable Tryz.prog 222 := ⟨_, _, Tryz.func222, rfl, rfl⟩
theorem ca_195 : Callable Tryz.prog 195 := ⟨_, _, Tryz.func195, rfl, rfl⟩
theorem ca_196 : Callable Tryz.prog 196 := ⟨_, _, Tryz.func196, rfl, rfl⟩
theorem ze_231 : (Tryz.prog.info? 231).map (·.zero) = some (some (.agg #[.slice none 0 0, .slice none 0 0, .slice none 0 0])) := by kernel_rfl
theorem bu_231_0_1 (v0 : Value) (v1 : Value) (h0 : v0.cells = #[v0]) (h1 : v1.cells = #[v1]) (w : World) : (Instr.build 231 #[(0, v0), (1, v1)]).run Tryz.prog w = .ok (.agg #[v0, v1, .slice none 0 0]) w := by
 have hz := @ze_231
 exact Go.Eng.run_build (pl := [(0, 1), (1, 1), (2, 1)]) hz Tryz.underlying231 (by kernel_rfl) rfl (by simp [Instr.fill, h0, h1, cells_agg]) w
theorem sz_231 : (Tryz.prog.info? 231).map (·.size) = some 3 := by kernel_rfl
theorem bu_231_0_2 (v0 : Value) (v2 : Value) (h0 : v0.cells = #[v0]) (h2 : v2.cells = #[v2]) (w : World) : (Instr.build 231 #[(0, v0), (2, v2)]).run Tryz.prog w = .ok (.agg #[v0, .slice none 0 0, v2]) w := by
 have hz := @ze_231
 exact Go.Eng.run_build (pl := [(0, 1), (1, 1), (2, 1)]) hz Tryz.underlying231 (by kernel_rfl) rfl (by simp [Instr.fill, h0, h2, cells_agg]) w
end FTree8
open FTree8
theorem catS2 {A1 A2 : HP} {hh h1 h2 : SH} {xs ys : List ByteArray} (v1 : Vis A1 (Rd eStr h1 xs)) (v2 : Vis A2 (Rd eStr h2 ys)) (hb : xs.length + ys.length ≤ 1000000) :
  Does Tryz.prog 221 [hh.v] [Sl (eSl 136) hh [h1, h2], A1, A2] (fun v l => ∃ h', v = h'.v ∧ l = [Sl eStr h' (xs ++ ys), Sl (eSl 136) hh [h1, h2], A1, A2]) := by
 have h := catS_spec (B := seps [A1, A2]) (hh := hh) (L := [(h1, xs), (h2, ys)]) (fun p hp => by
  rcases List.mem_cons.1 hp with rfl | hp
  ·exact Vis.at 0 rfl v1
  ·rcases List.mem_cons.1 hp with rfl | hp
   ·exact Vis.at 1 rfl v2
   ·cases hp) (by simpa using hb) (by simp)
 intro ι F w hw
 refine (h ι F w (hw.ent (Ent.sep (ent_cons (Ent.empL.trans Ent.comm)) Ent.rfl))).mono ?_
 rintro e w' ⟨v, l', ⟨h', hv, hl⟩, he, hw'⟩
 subst hl
 exact ⟨v, _, ⟨h', hv, rfl⟩, he, hw'.ent (Ent.sep (by simpa using (ent_cons (ent_cons Ent.left) : Ent (seps (Sl eStr h' (xs ++ ys) :: Sl (eSl 136) hh [h1, h2] :: [seps [A1, A2]])) _)) Ent.rfl)⟩
theorem catI2 {A1 A2 : HP} {hh h1 h2 : SH} {xs ys : List Int} (v1 : Vis A1 (Rd eInt h1 xs)) (v2 : Vis A2 (Rd eInt h2 ys)) (hb : xs.length + ys.length ≤ 1000000) :
  Does Tryz.prog 222 [hh.v] [Sl (eSl 72) hh [h1, h2], A1, A2] (fun v l => ∃ h', v = h'.v ∧ l = [Sl eInt h' (xs ++ ys), Sl (eSl 72) hh [h1, h2], A1, A2]) := by
 have h := catI_spec (B := seps [A1, A2]) (hh := hh) (L := [(h1, xs), (h2, ys)]) (fun p hp => by
  rcases List.mem_cons.1 hp with rfl | hp
  ·exact Vis.at 0 rfl v1
  ·rcases List.mem_cons.1 hp with rfl | hp
   ·exact Vis.at 1 rfl v2
   ·cases hp) (by simpa using hb) (by simp)
 intro ι F w hw
 refine (h ι F w (hw.ent (Ent.sep (ent_cons (Ent.empL.trans Ent.comm)) Ent.rfl))).mono ?_
 rintro e w' ⟨v, l', ⟨h', hv, hl⟩, he, hw'⟩
 subst hl
 exact ⟨v, _, ⟨h', hv, rfl⟩, he, hw'.ent (Ent.sep (by simpa using (ent_cons (ent_cons Ent.left) : Ent (seps (Sl eInt h' (xs ++ ys) :: Sl (eSl 72) hh [h1, h2] :: [seps [A1, A2]])) _)) Ent.rfl)⟩
theorem catN2 {A1 A2 : HP} {hh h1 h2 : SH} {xs ys : List Nat} (v1 : Vis A1 (Rd eNat h1 xs)) (v2 : Vis A2 (Rd eNat h2 ys)) (hb : xs.length + ys.length ≤ 1000000) :
  Does Tryz.prog 222 [hh.v] [Sl (eSl 72) hh [h1, h2], A1, A2] (fun v l => ∃ h', v = h'.v ∧ l = [Sl eNat h' (xs ++ ys), Sl (eSl 72) hh [h1, h2], A1, A2]) := by
 have h := catN_spec (B := seps [A1, A2]) (hh := hh) (L := [(h1, xs), (h2, ys)]) (fun p hp => by
  rcases List.mem_cons.1 hp with rfl | hp
  ·exact Vis.at 0 rfl v1
  ·rcases List.mem_cons.1 hp with rfl | hp
   ·exact Vis.at 1 rfl v2
   ·cases hp) (by simpa using hb) (by simp)
 intro ι F w hw
 refine (h ι F w (hw.ent (Ent.sep (ent_cons (Ent.empL.trans Ent.comm)) Ent.rfl))).mono ?_
 rintro e w' ⟨v, l', ⟨h', hv, hl⟩, he, hw'⟩
 subst hl
 exact ⟨v, _, ⟨h', hv, rfl⟩, he, hw'.ent (Ent.sep (by simpa using (ent_cons (ent_cons Ent.left) : Ent (seps (Sl eNat h' (xs ++ ys) :: Sl (eSl 72) hh [h1, h2] :: [seps [A1, A2]])) _)) Ent.rfl)⟩
theorem NodesX.hole {ho : List Nat} {hs : List Nd3} {ds : List Nd} {i : Nat} {h : Nd3} {d : Nd} (hi : i ∉ ho) (e : hs[i]? = some h) (e' : ds[i]? = some d) : Ent (NodesX ho hs ds) (NodesX (i :: ho) hs ds) := (NodesX.out hi e e').trans Ent.right
theorem mend_join {b : Nat} {l : List Nd} {fr : List Nat} {r : Option Nat} {m : Int} {hl hf : SH} {hs : List Nd3} (hlen : hs.length = l.length) {x w p q : Nat} {d dp dq : Nd} {s : ByteArray} (hC : MendC l x w d dp dq p q s) (hfr : fr.length ≤ 1000000) (hsz : sizeN dp + sizeN dq ≤ 4) :
  Does Tryz.prog 192 [.pointer (some ⟨b, 0, none⟩), .pointer (some (eAd hl 3 x 0)), .int .i64 (w : Int)] (TO b ⟨l, fr, r, m⟩ hl hf hs) (fun v l2 => ∃ hf' hs', hs'.length = (((l.set p (joinA dp dq s)).set x (joinX d w)).set q nd0).length ∧ (∀ j, j ≠ x → j ≠ p → j ≠ q → hs'[j]? = hs[j]?) ∧ v = .tuple #[] ∧ l2 = TO b ⟨((l.set p (joinA dp dq s)).set x (joinX d w)).set q nd0, fr ++ [q], r, m⟩ hl hf' hs') := by
 refine spec_of Tryz.func192 rfl Tryz.ntmps192 Tryz.results192 _ (by simp) fun ι F => ?_
 obtain ⟨hd, hg, ha, hb, hdp, hdq, hgp, hgq, hw, hs0, hxp, hxq, hpq⟩ := id hC
 have hwk := getLt hb
 obtain ⟨hx, hhx⟩ := getX hlen hd
 obtain ⟨hp, hhp⟩ := getX hlen hdp
 obtain ⟨hq, hhq⟩ := getX hlen hdq
 obtain ⟨hgr, hgk, hgn, hgc⟩ := hg
 obtain ⟨pgr, pgk, pgn, pgc⟩ := hgp
 obtain ⟨qgr, qgk, qgn, qgc⟩ := hgq
 refine vc_see 3 rfl ((Nodes.visK hhp hdp).imp fun w r => r.len) (fun ekp => ?_)
 refine vc_see 3 rfl ((Nodes.visN hhp hdp).imp fun w r => r.len) (fun enp => ?_)
 refine vc_see 3 rfl ((Nodes.visC hhp hdp).imp fun w r => r.len) (fun ecp => ?_)
 refine vc_see 3 rfl ((Nodes.visK hhq hdq).imp fun w r => r.len) (fun ekq => ?_)
 refine vc_see 3 rfl ((Nodes.visN hhq hdq).imp fun w r => r.len) (fun enq => ?_)
 refine vc_see 3 rfl ((Nodes.visC hhq hdq).imp fun w r => r.len) (fun ecq => ?_)
 have hszp : sizeN dp ≤ 1000 := by unfold sizeN; split <;> omega
 have hszq : sizeN dq ≤ 1000 := by unfold sizeN; split <;> omega
 refine vc_seq ?_
 refine vc_draw (by kernel_rfl) _ none [0, 0, 0, 0] rfl ?_
 refine tpp 0 ?_
 refine tpp 1 ?_
 refine tp 2 rfl (by exact y_fieldP fl_204_0 0 rfl rfl) ?_
 refine tk 3 rfl (by exact y_load1 0 rfl one_202 rfl (Pts.vis rfl)) ?_
 refine tpp 4 ?_
 refine tpp 5 ?_
 refine tp 6 rfl (by exact y_fieldE fl_231_2 2 rfl rfl) ?_
 refine tk 7 rfl (by exact y_load1 1 rfl one_72 rfl (Rd.vis1 (Sl.vis) hhx rfl)) ?_
 refine tpp 8 ?_
 refine tp 9 rfl (by exact y_arith ((w - 1 : Nat) : Int) rfl (wrapNsub (by omega))) ?_
 refine tk 10 rfl (by exact y_elem 3 rfl (Nodes.visC hhx hd) (w - 1) rfl (getLt ha) sl_72 rfl rfl) ?_
 refine tk 11 rfl (by exact y_load1 3 rfl one_3 rfl (Rd.vis1 (Nodes.visC hhx hd) ha rfl)) ?_
 refine tk 12 rfl (by exact y_elem 1 rfl (Sl.vis) p rfl (getLt hhp) sl_202 rfl rfl) ?_
 refine tpp 13 ?_
 refine tpp 14 ?_
 refine tp 15 rfl (by exact y_fieldP fl_204_0 0 rfl rfl) ?_
 refine tk 16 rfl (by exact y_load1 0 rfl one_202 rfl (Pts.vis rfl)) ?_
 refine tpp 17 ?_
 refine tpp 18 ?_
 refine tp 19 rfl (by exact y_fieldE fl_231_2 2 rfl rfl) ?_
 refine tk 20 rfl (by exact y_load1 1 rfl one_72 rfl (Rd.vis1 (Sl.vis) hhx rfl)) ?_
 refine tpp 21 ?_
 refine tk 22 rfl (by exact y_elem 3 rfl (Nodes.visC hhx hd) w rfl (getLt hb) sl_72 rfl rfl) ?_
 refine tk 23 rfl (by exact y_load1 3 rfl one_3 rfl (Rd.vis1 (Nodes.visC hhx hd) hb rfl)) ?_
 refine tk 24 rfl (by exact y_elem 1 rfl (Sl.vis) q rfl (getLt hhq) sl_202 rfl rfl) ?_
 refine tpp 25 ?_
 refine tpp 26 ?_
 refine va_done (by kernel_rfl) ?_
 refine vc_then ?_
 refine vc_seq ?_
 refine vc_seq ?_
 refine vc_region ?_
 refine vp ?_
 refine vc_callv ca_166 (us := []) (vs := []) rfl [_] rfl [1] rfl (size_specD (h := hp) (d := dp) (Rd.vis1 Sl.vis hhp rfl) (Rd.vis1 Sl.vis hhp rfl) ekp ecp) rfl ?_
 rintro _ _ ⟨rfl, rfl⟩
 refine vp ?_
 refine vc_callv ca_166 (us := []) (vs := []) rfl [_] rfl [0] rfl (size_specD (h := hq) (d := dq) (Rd.vis1 Sl.vis hhq rfl) (Rd.vis1 Sl.vis hhq rfl) ekq ecq) rfl ?_
 rintro _ _ ⟨rfl, rfl⟩
 refine vc_y (y_arith ((sizeN dp + sizeN dq : Nat) : Int) rfl (by rw [Int.natCast_add]; exact wrap64 (by omega) (by omega))) rfl ?_
 refine vp ?_
 refine vc_nil ?_
 refine vc_then ?_
 first | refine vc_condP rfl (fun c42 => ?_) (fun c42 => ?_) | refine vc_condN rfl (fun c42 => ?_) (fun c42 => ?_) | refine vc_cond rfl (fun c42 => ?_) (fun c42 => ?_)
 ·skip
  refine vc_seq ?_
  refine vc_region ?_
  iterate 3 refine vp ?_
  refine vc_callv ca_220 (us := []) (vs := []) rfl [_, _, _] rfl [1, 0, 0, 0] rfl (join_spec hlen hC hfr) rfl ?_
  rintro _ _ ⟨hf', hs', lnf, hof, rfl, rfl⟩
  refine vc_nil ?_
  refine vc_then ?_
  refine vc_ret ?_
  refine vc_thenRet ?_
  exact vc_end0 Tryz.results192  _ (ent_pick [0, 0, 0, 0] rfl) ⟨hf', hs', lnf, hof, rfl, rfl⟩
 ·skip
  omega
theorem mend_part {b : Nat} {l : List Nd} {fr : List Nat} {r : Option Nat} {m : Int} {hl hf : SH} {hs : List Nd3} (hlen : hs.length = l.length) {x w p q : Nat} {d dp dq : Nd} {s : ByteArray} (hC : MendC l x w d dp dq p q s) (hfr : fr.length ≤ 1000000) {t : ByteArray} (hsz : 4 < sizeN dp + sizeN dq) (ht : (allK dp dq s)[partK dp dq]? = some t) (hl0 : dp.kids = [] → dq.kids = [] ∧ dp.nums.length = dp.keys.length ∧ dq.nums.length = dq.keys.length) (hn0 : dp.kids ≠ [] → dq.kids ≠ [] ∧ dp.kids.length = dp.keys.length + 1 ∧ dq.kids.length = dq.keys.length + 1) :
  Does Tryz.prog 192 [.pointer (some ⟨b, 0, none⟩), .pointer (some (eAd hl 3 x 0)), .int .i64 (w : Int)] (TO b ⟨l, fr, r, m⟩ hl hf hs) (fun v l2 => ∃ hf' hs', hs'.length = (((l.set p (partA dp dq s)).set q (partB dp dq s)).set x ⟨d.keys.set (w - 1) t, d.nums, d.kids⟩).length ∧ (∀ j, j ≠ x → j ≠ p → j ≠ q → hs'[j]? = hs[j]?) ∧ v = .tuple #[] ∧ l2 = TO b ⟨((l.set p (partA dp dq s)).set q (partB dp dq s)).set x ⟨d.keys.set (w - 1) t, d.nums, d.kids⟩, fr, r, m⟩ hl hf' hs') := by
 refine spec_of Tryz.func192 rfl Tryz.ntmps192 Tryz.results192 _ (by simp) fun ι F => ?_
 obtain ⟨hd, hg, ha, hb, hdp, hdq, hgp, hgq, hw, hs0, hxp, hxq, hpq⟩ := hC
 have hwk := getLt hb
 obtain ⟨hx, hhx⟩ := getX hlen hd
 obtain ⟨hp, hhp⟩ := getX hlen hdp
 obtain ⟨hq, hhq⟩ := getX hlen hdq
 obtain ⟨hgr, hgk, hgn, hgc⟩ := hg
 obtain ⟨pgr, pgk, pgn, pgc⟩ := hgp
 obtain ⟨qgr, qgk, qgn, qgc⟩ := hgq
 refine vc_openN 3 rfl hhp hdp ?_
 refine vc_see 0 rfl (Sl.vis.imp fun w r => (⟨r.len, r.cap⟩ : hp.k.len = dp.keys.length ∧ dp.keys.length ≤ hp.k.cap)) (fun ekp => ?_)
 refine vc_see 1 rfl (Sl.vis.imp fun w r => (⟨r.len, r.cap⟩ : hp.n.len = dp.nums.length ∧ dp.nums.length ≤ hp.n.cap)) (fun enp => ?_)
 refine vc_see 2 rfl (Sl.vis.imp fun w r => (⟨r.len, r.cap⟩ : hp.c.len = dp.kids.length ∧ dp.kids.length ≤ hp.c.cap)) (fun ecp => ?_)
 have hxno : x ∉ [p] := by simp; omega
 have hqno : q ∉ [p] := by simp; omega
 refine vc_see 3 rfl ((NodesX.visK hxno hhx hd).imp fun w r => (⟨r.len, r.cap⟩ : hx.k.len = d.keys.length ∧ d.keys.length ≤ hx.k.cap)) (fun ekx => ?_)
 refine vc_see 3 rfl ((NodesX.visN hxno hhx hd).imp fun w r => (⟨r.len, r.cap⟩ : hx.n.len = d.nums.length ∧ d.nums.length ≤ hx.n.cap)) (fun enx => ?_)
 refine vc_see 3 rfl ((NodesX.visC hxno hhx hd).imp fun w r => (⟨r.len, r.cap⟩ : hx.c.len = d.kids.length ∧ d.kids.length ≤ hx.c.cap)) (fun ecx => ?_)
 refine vc_see 3 rfl ((NodesX.visK hqno hhq hdq).imp fun w r => (⟨r.len, r.cap⟩ : hq.k.len = dq.keys.length ∧ dq.keys.length ≤ hq.k.cap)) (fun ekq => ?_)
 refine vc_see 3 rfl ((NodesX.visN hqno hhq hdq).imp fun w r => (⟨r.len, r.cap⟩ : hq.n.len = dq.nums.length ∧ dq.nums.length ≤ hq.n.cap)) (fun enq => ?_)
 refine vc_see 3 rfl ((NodesX.visC hqno hhq hdq).imp fun w r => (⟨r.len, r.cap⟩ : hq.c.len = dq.kids.length ∧ dq.kids.length ≤ hq.c.cap)) (fun ecq => ?_)
 have hszp : sizeN dp ≤ 1000 := by unfold sizeN; split <;> omega
 have hszq : sizeN dq ≤ 1000 := by unfold sizeN; split <;> omega
 refine vc_seq ?_
 refine vc_draw (by kernel_rfl) _ none [0, 0, 0, 0, 0, 0, 0] rfl ?_
 refine tpp 0 ?_
 refine tpp 1 ?_
 refine tp 2 rfl (by exact y_fieldP fl_204_0 0 rfl rfl) ?_
 refine tk 3 rfl (by exact y_load1 4 rfl one_202 rfl (Pts.vis rfl)) ?_
 refine tpp 4 ?_
 refine tpp 5 ?_
 refine tp 6 rfl (by exact y_fieldE fl_231_2 2 rfl rfl) ?_
 refine tk 7 rfl (by exact y_load1 5 rfl one_72 rfl (Rd.vis1 (Sl.vis) hhx rfl)) ?_
 refine tpp 8 ?_
 refine tp 9 rfl (by exact y_arith ((w - 1 : Nat) : Int) rfl (wrapNsub (by omega))) ?_
 refine tk 10 rfl (by exact y_elem 3 rfl (NodesX.visC hxno hhx hd) (w - 1) rfl (getLt ha) sl_72 rfl rfl) ?_
 refine tk 11 rfl (by exact y_load1 3 rfl one_3 rfl (Rd.vis1 (NodesX.visC hxno hhx hd) ha rfl)) ?_
 refine tk 12 rfl (by exact y_elem 5 rfl (Sl.vis) p rfl (getLt hhp) sl_202 rfl rfl) ?_
 refine tpp 13 ?_
 refine tpp 14 ?_
 refine tp 15 rfl (by exact y_fieldP fl_204_0 0 rfl rfl) ?_
 refine tk 16 rfl (by exact y_load1 4 rfl one_202 rfl (Pts.vis rfl)) ?_
 refine tpp 17 ?_
 refine tpp 18 ?_
 refine tp 19 rfl (by exact y_fieldE fl_231_2 2 rfl rfl) ?_
 refine tk 20 rfl (by exact y_load1 5 rfl one_72 rfl (Rd.vis1 (Sl.vis) hhx rfl)) ?_
 refine tpp 21 ?_
 refine tk 22 rfl (by exact y_elem 3 rfl (NodesX.visC hxno hhx hd) w rfl (getLt hb) sl_72 rfl rfl) ?_
 refine tk 23 rfl (by exact y_load1 3 rfl one_3 rfl (Rd.vis1 (NodesX.visC hxno hhx hd) hb rfl)) ?_
 refine tk 24 rfl (by exact y_elem 5 rfl (Sl.vis) q rfl (getLt hhq) sl_202 rfl rfl) ?_
 refine tpp 25 ?_
 refine tpp 26 ?_
 refine va_done (by kernel_rfl) ?_
 refine vc_then ?_
 refine vc_seq ?_
 refine vc_seq ?_
 refine vc_region ?_
 refine vp ?_
 refine vc_callv ca_166 (us := []) (vs := []) rfl [_] rfl [5] rfl (size_specD (h := hp) (d := dp) (Rd.vis1 Sl.vis hhp rfl) (Rd.vis1 Sl.vis hhp rfl) ekp.1 ecp.1) rfl ?_
 rintro _ _ ⟨rfl, rfl⟩
 refine vp ?_
 refine vc_callv ca_166 (us := []) (vs := []) rfl [_] rfl [0] rfl (size_specD (h := hq) (d := dq) (Rd.vis1 Sl.vis hhq rfl) (Rd.vis1 Sl.vis hhq rfl) ekq.1 ecq.1) rfl ?_
 rintro _ _ ⟨rfl, rfl⟩
 refine vc_y (y_arith ((sizeN dp + sizeN dq : Nat) : Int) rfl (by rw [Int.natCast_add]; exact wrap64 (by omega) (by omega))) rfl ?_
 refine vp ?_
 refine vc_nil ?_
 refine vc_then ?_
 first | refine vc_condP rfl (fun c42 => ?_) (fun c42 => ?_) | refine vc_condN rfl (fun c42 => ?_) (fun c42 => ?_) | refine vc_cond rfl (fun c42 => ?_) (fun c42 => ?_)
 ·skip
  omega
 ·skip
  refine vc_skip ?_
  refine vc_then ?_
  refine vc_seq ?_
  refine vc_cut (α := SH × List Nd3) (fun xq_ => match xq_ with | (g, hs1) => [(0, .pointer (some ⟨b, 0, none⟩)), (1, .pointer (some (eAd hl 3 x 0))), (2, .int .i64 (w : Int)), (6, .pointer (some (eAd hl 3 p 0))), (7, .pointer (some (eAd hl 3 q 0)))]) (fun xq_ => match xq_ with | (g, hs1) => [Sl eStr g (if dp.kids = [] then dp.keys else dp.keys ++ [s]), Sl eInt hp.n dp.nums, Sl eNat hp.c dp.kids, NodesX [p] hs l, Pts b [hl.v, hf.v, .int .i64 (rootV r), .int .i64 m] 204, Sl eNode hl hs1, Sl eNat hf fr]) (fun xq_ => match xq_ with | (g, hs1) => hs1.length = l.length ∧ hs1[p]? = some ⟨g, hp.n, hp.c⟩ ∧ ∀ j, j ≠ p → hs1[j]? = hs[j]?) ?_ ?_
  ·skip
   refine vc_seq ?_
   refine vc_region ?_
   refine vp ?_
   refine vc_callv ca_163 (us := []) (vs := []) rfl [_] rfl [0] rfl (leaf_specD (h := hp) (d := dp) (Rd.vis1 Sl.vis hhp rfl) ecp.1) rfl ?_
   rintro _ _ ⟨rfl, rfl⟩
   refine vp ?_
   refine vc_nil ?_
   refine vc_then ?_
   first | refine vc_condP rfl (fun c49 => ?_) (fun c49 => ?_) | refine vc_condN rfl (fun c49 => ?_) (fun c49 => ?_) | refine vc_cond rfl (fun c49 => ?_) (fun c49 => ?_)
   ·skip
    have hpk : dp.kids ≠ [] := by simpa using c49
    refine vc_draw (by kernel_rfl) _ (some 17) [0, 3] rfl ?_
    refine tpp 0 ?_
    refine tpp 1 ?_
    refine tpp 2 ?_
    refine tp 3 rfl (by exact y_fieldE fl_231_0 0 rfl rfl) ?_
    refine tk 4 rfl (by exact y_load1 0 rfl one_136 rfl (Rd.vis1 (Sl.vis) hhp rfl)) ?_
    refine tpp 5 ?_
    refine tpp 6 ?_
    refine tp 7 rfl (by exact y_fieldE fl_231_0 0 rfl rfl) ?_
    refine tk 8 rfl (by exact y_load1 0 rfl one_136 rfl (Rd.vis1 (Sl.vis) hhx rfl)) ?_
    refine tpp 9 ?_
    refine tp 10 rfl (by exact y_arith ((w - 1 : Nat) : Int) rfl (wrapNsub (by omega))) ?_
    refine tk 11 rfl (by exact y_elem 1 rfl (NodesX.visK hxno hhx hd) (w - 1) rfl (getLt hs0) sl_136 rfl rfl) ?_
    refine tk 12 rfl (by exact y_load1 1 rfl one_9 rfl (Rd.vis1 (NodesX.visK hxno hhx hd) hs0 rfl)) ?_
    refine va_ready [13] (by kernel_rfl) rfl ?_
    refine vo_cons rfl (fun hC0 => ?_) ?_
    ·skip
     refine vc_buildSlice (E := eStr) [(0, _)] [s] rfl rfl (bs_136_1 _ rfl) rfl (fun h63 => ?_)
     refine vc_nil ?_
     refine vc_then ?_
     refine va_kept hC0 [1, 4] rfl ?_
     clear hC0
     refine va_ready [14] (by kernel_rfl) rfl ?_
     refine vo_cons rfl (fun hC0 => ?_) ?_
     ·skip
      refine vc_append 2 rfl 0 rfl (Sl.vis) el_136_eStr Tryz.underlying136 rfl rfl (by simp; omega) (by simp; omega) rfl (fun h64 => ?_)
      refine vc_nil ?_
      refine vc_then ?_
      refine va_kept hC0 [1, 4] rfl ?_
      clear hC0
      refine tpp 15 ?_
      refine tp 16 rfl (by exact y_fieldE fl_231_0 0 rfl rfl) ?_
      refine va_ready [17] (by kernel_rfl) rfl ?_
      refine vo_cons rfl (fun hC0 => ?_) ?_
      ·skip
       refine vc_storeE 1 rfl [_] ⟨h64, hp.n, hp.c⟩ rfl rfl rfl sz_136 rfl hhp (Nat.le_of_ble_eq_true rfl) rfl ?_
       refine vc_nil ?_
       refine vc_then ?_
       refine va_gone hC0 (by kernel_rfl) ?_
       clear hC0
       refine va_done (by kernel_rfl) ?_
       refine vc_then ?_
       exact vc_met (h64, hs.set p ⟨h64, hp.n, hp.c⟩) ⟨by rw [List.length_set]; exact hlen, List.getElem?_set_self (getLt hhp), fun j hj => List.getElem?_set_ne (Ne.symm hj)⟩ ⟨rfl, rfl, rfl, rfl, rfl, trivial⟩ (by rw [if_neg hpk]; exact ent_pick [2, 2, 2, 2, 2, 1, 1] rfl)
      exact vo_nil
     exact vo_nil
    exact vo_nil
   ·skip
    have hpk : dp.kids = [] := by simpa using c49
    refine vc_skip ?_
    refine vc_then ?_
    exact vc_met (hp.k, hs) ⟨hlen, hhp, fun j hj => rfl⟩ ⟨rfl, rfl, rfl, rfl, rfl, trivial⟩ (by rw [if_pos hpk]; exact ent_pick [1, 1, 1, 1, 1, 0, 0] rfl)
  rintro ⟨g, hs1⟩ ⟨ln1, hg1, ho1⟩
  show VC _ _ _ _ [(0, .pointer (some ⟨b, 0, none⟩)), (1, .pointer (some (eAd hl 3 x 0))), (2, .int .i64 (w : Int)), (6, .pointer (some (eAd hl 3 p 0))), (7, .pointer (some (eAd hl 3 q 0)))] ([Sl eStr g (if dp.kids = [] then dp.keys else dp.keys ++ [s]), Sl eInt hp.n dp.nums, Sl eNat hp.c dp.kids, NodesX [p] hs l, Pts b [hl.v, hf.v, .int .i64 (rootV r), .int .i64 m] 204, Sl eNode hl hs1, Sl eNat hf fr])
  have hka : ((if dp.kids = [] then dp.keys else dp.keys ++ [s])).length ≤ 1001 := by split <;> (try simp) <;> omega
  have hhq1 : hs1[q]? = some hq := by rw [ho1 q (Ne.symm hpq)]; exact hhq
  have hhx1 : hs1[x]? = some hx := by rw [ho1 x hxp]; exact hhx
  refine vc_see 0 rfl (Sl.vis.imp fun w r => r.len) (fun ega => ?_)
  have hspA : sizeN ⟨(if dp.kids = [] then dp.keys else dp.keys ++ [s]), dp.nums, dp.kids⟩ = sizeN dp := by
   unfold sizeN leafN
   cases hk : dp.kids <;> simp [hk]
  refine vc_seq ?_
  refine vc_draw (by kernel_rfl) _ none [5] rfl ?_
  refine tpp 0 ?_
  refine tpp 1 ?_
  refine tp 2 rfl (by exact y_fieldE fl_231_0 0 rfl rfl) ?_
  refine tk 3 rfl (by exact y_load1 0 rfl one_136 rfl (Rd.vis1 (Sl.vis) hg1 rfl)) ?_
  refine tpp 4 ?_
  refine tpp 5 ?_
  refine tp 6 rfl (by exact y_fieldE fl_231_0 0 rfl rfl) ?_
  refine tk 7 rfl (by exact y_load1 0 rfl one_136 rfl (Rd.vis1 (Sl.vis) hhq1 rfl)) ?_
  refine va_ready [8] (by kernel_rfl) rfl ?_
  refine vo_cons rfl (fun hC0 => ?_) ?_
  ·skip
   refine vc_buildSlice (E := (eSl 136)) [(0, _), (1, _)] [g, hq.k] rfl rfl (bs_295_2 _ _ rfl rfl) rfl (fun h75 => ?_)
   refine vc_nil ?_
   refine vc_then ?_
   refine va_kept hC0 [6] rfl ?_
   clear hC0
   refine va_ready [9] (by kernel_rfl) rfl ?_
   refine vo_cons rfl (fun hC0 => ?_) ?_
   ·skip
    refine vc_callv ca_221 (us := []) (vs := []) rfl [_] rfl [0, 0, 2] rfl (catS2 Sl.vis (NodesX.visK hqno hhq hdq) (by omega)) rfl ?_
    rintro _ _ ⟨h76, rfl, rfl⟩
    refine vc_nil ?_
    refine vc_then ?_
    refine va_kept hC0 [7] rfl ?_
    clear hC0
    refine tpp 10 ?_
    refine va_done (by kernel_rfl) ?_
    refine vc_then ?_
    refine vc_seq ?_
    refine vc_cut (α := SH × SH) (fun xq_ => match xq_ with | (h86, h96) => [(0, .pointer (some ⟨b, 0, none⟩)), (1, .pointer (some (eAd hl 3 x 0))), (2, .int .i64 (w : Int)), (6, .pointer (some (eAd hl 3 p 0))), (7, .pointer (some (eAd hl 3 q 0))), (8, h76.v), (9, h86.v), (10, h96.v)]) (fun xq_ => match xq_ with | (h86, h96) => [Sl eStr h76 ((if dp.kids = [] then dp.keys else dp.keys ++ [s]) ++ dq.keys), Sl eInt h86 (dp.nums ++ dq.nums), Sl eNat h96 (dp.kids ++ dq.kids), NodesX [p] hs l, Pts b [hl.v, hf.v, .int .i64 (rootV r), .int .i64 m] 204, Sl eNode hl hs1, Sl eNat hf fr]) (fun xq_ => match xq_ with | (h86, h96) => True) ?_ ?_
    ·skip
     refine vc_draw (by kernel_rfl) _ none [7] rfl ?_
     refine tpp 0 ?_
     refine tpp 1 ?_
     refine tp 2 rfl (by exact y_fieldE fl_231_1 1 rfl rfl) ?_
     refine tk 3 rfl (by exact y_load1 0 rfl one_72 rfl (Rd.vis1 (Sl.vis) hg1 rfl)) ?_
     refine tpp 4 ?_
     refine tpp 5 ?_
     refine tp 6 rfl (by exact y_fieldE fl_231_1 1 rfl rfl) ?_
     refine tk 7 rfl (by exact y_load1 0 rfl one_72 rfl (Rd.vis1 (Sl.vis) hhq1 rfl)) ?_
     refine tpp 10 ?_
     refine tpp 11 ?_
     refine tp 12 rfl (by exact y_fieldE fl_231_2 2 rfl rfl) ?_
     refine tk 13 rfl (by exact y_load1 0 rfl one_72 rfl (Rd.vis1 (Sl.vis) hg1 rfl)) ?_
     refine tpp 14 ?_
     refine tpp 15 ?_
     refine tp 16 rfl (by exact y_fieldE fl_231_2 2 rfl rfl) ?_
     refine tk 17 rfl (by exact y_load1 0 rfl one_72 rfl (Rd.vis1 (Sl.vis) hhq1 rfl)) ?_
     refine va_ready [8, 18] (by kernel_rfl) rfl ?_
     refine vo_cons rfl (fun hC0 => ?_) ?_
     ·skip
      refine vc_buildSlice (E := (eSl 72)) [(0, _), (1, _)] [hp.n, hq.n] rfl rfl (bs_297_2 _ _ rfl rfl) rfl (fun h85 => ?_)
      refine vc_nil ?_
      refine vc_then ?_
      refine va_kept hC0 [8] rfl ?_
      clear hC0
      refine va_ready [9, 18] (by kernel_rfl) rfl ?_
      refine vo_cons rfl (fun hC0 => ?_) ?_
      ·skip
       refine vc_callv ca_222 (us := []) (vs := []) rfl [_] rfl [0, 4, 3] rfl (catI2 Sl.vis (NodesX.visN hqno hhq hdq) (by omega)) rfl ?_
       rintro _ _ ⟨h86, rfl, rfl⟩
       refine vc_nil ?_
       refine vc_then ?_
       refine va_kept hC0 [9] rfl ?_
       clear hC0
       refine va_ready [18] (by kernel_rfl) rfl ?_
       refine vo_cons rfl (fun hC0 => ?_) ?_
       ·skip
        refine vc_buildSlice (E := (eSl 72)) [(0, _), (1, _)] [hp.c, hq.c] rfl rfl (bs_297_2 _ _ rfl rfl) rfl (fun h95 => ?_)
        refine vc_nil ?_
        refine vc_then ?_
        refine va_kept hC0 [10] rfl ?_
        clear hC0
        refine va_ready [19] (by kernel_rfl) rfl ?_
        refine vo_cons rfl (fun hC0 => ?_) ?_
        ·skip
         refine vc_callv ca_222 (us := []) (vs := []) rfl [_] rfl [0, 7, 3] rfl (catN2 Sl.vis (NodesX.visC hqno hhq hdq) (by omega)) rfl ?_
         rintro _ _ ⟨h96, rfl, rfl⟩
         refine vc_nil ?_
         refine vc_then ?_
         refine va_kept hC0 [11] rfl ?_
         clear hC0
         refine tpp 20 ?_
         refine tpp 21 ?_
         refine va_done (by kernel_rfl) ?_
         refine vc_then ?_
         exact vc_met (h86, h96) trivial ⟨rfl, rfl, rfl, rfl, rfl, rfl, rfl, rfl, trivial⟩ (ent_pick [7, 4, 0, 2, 6, 6, 6] rfl)
        exact vo_nil
       exact vo_nil
      refine vo_cons rfl (fun hC0 => ?_) ?_
      ·skip
       refine vc_buildSlice (E := (eSl 72)) [(0, _), (1, _)] [hp.c, hq.c] rfl rfl (bs_297_2 _ _ rfl rfl) rfl (fun h95 => ?_)
       refine vc_nil ?_
       refine vc_then ?_
       refine va_kept hC0 [9] rfl ?_
       clear hC0
       refine va_ready [9] (by kernel_rfl) rfl ?_
       refine vo_cons rfl (fun hC0 => ?_) ?_
       ·skip
        refine vc_callv ca_222 (us := []) (vs := []) rfl [_] rfl [1, 5, 4] rfl (catI2 Sl.vis (NodesX.visN hqno hhq hdq) (by omega)) rfl ?_
        rintro _ _ ⟨h86, rfl, rfl⟩
        refine vc_nil ?_
        refine vc_then ?_
        refine va_kept hC0 [10] rfl ?_
        clear hC0
        refine va_ready [19] (by kernel_rfl) rfl ?_
        refine vo_cons rfl (fun hC0 => ?_) ?_
        ·skip
         refine vc_callv ca_222 (us := []) (vs := []) rfl [_] rfl [4, 7, 3] rfl (catN2 Sl.vis (NodesX.visC hqno hhq hdq) (by omega)) rfl ?_
         rintro _ _ ⟨h96, rfl, rfl⟩
         refine vc_nil ?_
         refine vc_then ?_
         refine va_kept hC0 [11] rfl ?_
         clear hC0
         refine tpp 20 ?_
         refine tpp 21 ?_
         refine va_done (by kernel_rfl) ?_
         refine vc_then ?_
         exact vc_met (h86, h96) trivial ⟨rfl, rfl, rfl, rfl, rfl, rfl, rfl, rfl, trivial⟩ (ent_pick [7, 4, 0, 2, 6, 6, 6] rfl)
        exact vo_nil
       exact vo_nil
      exact vo_nil
     refine vo_cons rfl (fun hC0 => ?_) ?_
     ·skip
      refine vc_buildSlice (E := (eSl 72)) [(0, _), (1, _)] [hp.c, hq.c] rfl rfl (bs_297_2 _ _ rfl rfl) rfl (fun h95 => ?_)
      refine vc_nil ?_
      refine vc_then ?_
      refine va_kept hC0 [8] rfl ?_
      clear hC0
      refine va_ready [8] (by kernel_rfl) rfl ?_
      refine vo_cons rfl (fun hC0 => ?_) ?_
      ·skip
       refine vc_buildSlice (E := (eSl 72)) [(0, _), (1, _)] [hp.n, hq.n] rfl rfl (bs_297_2 _ _ rfl rfl) rfl (fun h85 => ?_)
       refine vc_nil ?_
       refine vc_then ?_
       refine va_kept hC0 [9] rfl ?_
       clear hC0
       refine va_ready [9] (by kernel_rfl) rfl ?_
       refine vo_cons rfl (fun hC0 => ?_) ?_
       ·skip
        refine vc_callv ca_222 (us := []) (vs := []) rfl [_] rfl [0, 5, 4] rfl (catI2 Sl.vis (NodesX.visN hqno hhq hdq) (by omega)) rfl ?_
        rintro _ _ ⟨h86, rfl, rfl⟩
        refine vc_nil ?_
        refine vc_then ?_
        refine va_kept hC0 [10] rfl ?_
        clear hC0
        refine va_ready [19] (by kernel_rfl) rfl ?_
        refine vo_cons rfl (fun hC0 => ?_) ?_
        ·skip
         refine vc_callv ca_222 (us := []) (vs := []) rfl [_] rfl [4, 7, 3] rfl (catN2 Sl.vis (NodesX.visC hqno hhq hdq) (by omega)) rfl ?_
         rintro _ _ ⟨h96, rfl, rfl⟩
         refine vc_nil ?_
         refine vc_then ?_
         refine va_kept hC0 [11] rfl ?_
         clear hC0
         refine tpp 20 ?_
         refine tpp 21 ?_
         refine va_done (by kernel_rfl) ?_
         refine vc_then ?_
         exact vc_met (h86, h96) trivial ⟨rfl, rfl, rfl, rfl, rfl, rfl, rfl, rfl, trivial⟩ (ent_pick [7, 4, 0, 2, 6, 6, 6] rfl)
        exact vo_nil
       exact vo_nil
      exact vo_nil
     exact vo_nil
    rintro ⟨h86, h96⟩ _
    show VC _ _ _ _ [(0, .pointer (some ⟨b, 0, none⟩)), (1, .pointer (some (eAd hl 3 x 0))), (2, .int .i64 (w : Int)), (6, .pointer (some (eAd hl 3 p 0))), (7, .pointer (some (eAd hl 3 q 0))), (8, h76.v), (9, h86.v), (10, h96.v)] ([Sl eStr h76 ((if dp.kids = [] then dp.keys else dp.keys ++ [s]) ++ dq.keys), Sl eInt h86 (dp.nums ++ dq.nums), Sl eNat h96 (dp.kids ++ dq.kids), NodesX [p] hs l, Pts b [hl.v, hf.v, .int .i64 (rootV r), .int .i64 m] 204, Sl eNode hl hs1, Sl eNat hf fr])
    refine vc_seq ?_
    refine vc_region ?_
    refine vp ?_
    refine vc_callv ca_166 (us := []) (vs := []) rfl [_] rfl [5] rfl (((size_specD (h := ⟨g, hp.n, hp.c⟩) (d := ⟨(if dp.kids = [] then dp.keys else dp.keys ++ [s]), dp.nums, dp.kids⟩) (Rd.vis1 Sl.vis hg1 rfl) (Rd.vis1 Sl.vis hg1 rfl) ega ecp.1).imp fun v l h => by rw [hspA] at h; exact h)) rfl ?_
    rintro _ _ ⟨rfl, rfl⟩
    refine vp ?_
    refine vc_callv ca_166 (us := []) (vs := []) rfl [_] rfl [0] rfl (size_specD (h := hq) (d := dq) (Rd.vis1 Sl.vis hhq1 rfl) (Rd.vis1 Sl.vis hhq1 rfl) ekq.1 ecq.1) rfl ?_
    rintro _ _ ⟨rfl, rfl⟩
    refine vc_y (y_arith ((sizeN dp + sizeN dq : Nat) : Int) rfl (by rw [Int.natCast_add]; exact wrap64 (by omega) (by omega))) rfl ?_
    refine vc_y (y_quo ((partH dp dq : Nat) : Int) rfl rfl (by decide) (half (by omega))) rfl ?_
    refine vp ?_
    refine vc_nil ?_
    refine vc_then ?_
    refine vc_seq ?_
    refine vc_seq ?_
    refine vc_region ?_
    refine vc_see 1 rfl (Sl.vis.imp fun w r => (⟨r.len, r.cap⟩ : h76.len = ((if dp.kids = [] then dp.keys else dp.keys ++ [s]) ++ dq.keys).length ∧ ((if dp.kids = [] then dp.keys else dp.keys ++ [s]) ++ dq.keys).length ≤ h76.cap)) (fun e76 => ?_)
    refine vc_see 2 rfl (Sl.vis.imp fun w r => (⟨r.len, r.cap⟩ : h86.len = (dp.nums ++ dq.nums).length ∧ (dp.nums ++ dq.nums).length ≤ h86.cap)) (fun e86 => ?_)
    refine vc_see 3 rfl (Sl.vis.imp fun w r => (⟨r.len, r.cap⟩ : h96.len = (dp.kids ++ dq.kids).length ∧ (dp.kids ++ dq.kids).length ≤ h96.cap)) (fun e96 => ?_)
    rw [List.length_append] at e76 e86 e96
    have hHd : partH dp dq = (sizeN dp + sizeN dq) / 2 := rfl
    refine vp ?_
    refine vc_callv ca_163 (us := []) (vs := []) rfl [_] rfl [0] rfl (leaf_specD (h := ⟨g, hp.n, hp.c⟩) (d := ⟨(if dp.kids = [] then dp.keys else dp.keys ++ [s]), dp.nums, dp.kids⟩) (Rd.vis1 Sl.vis hg1 rfl) ecp.1) rfl ?_
    rintro _ _ ⟨rfl, rfl⟩
    refine vc_nil ?_
    refine vc_then ?_
    first | refine vc_condP rfl (fun c104 => ?_) (fun c104 => ?_) | refine vc_condN rfl (fun c104 => ?_) (fun c104 => ?_) | refine vc_cond rfl (fun c104 => ?_) (fun c104 => ?_)
    ·skip
     have hpk : dp.kids = [] := by simpa using c104
     obtain ⟨hqk, hpn, hqn⟩ := hl0 hpk
     have hzp : sizeN dp = dp.keys.length := by simp [sizeN, leafN, hpk]
     have hzq : sizeN dq = dq.keys.length := by simp [sizeN, leafN, hqk]
     have hK : partK dp dq = partH dp dq := by simp [partK, hpk]
     rw [hK] at ht
     have hka2 : ((if dp.kids = [] then dp.keys else dp.keys ++ [s])).length = dp.keys.length := by rw [if_pos hpk]
     have hA0 : partA dp dq s = ⟨(allK dp dq s).take (partH dp dq), (dp.nums ++ dq.nums).take (partH dp dq), []⟩ := by simp [partA, hpk]
     have hB0 : partB dp dq s = ⟨(allK dp dq s).drop (partH dp dq), (dp.nums ++ dq.nums).drop (partH dp dq), []⟩ := by simp [partB, hpk]
     refine vc_seq ?_
     refine vc_draw (by kernel_rfl) _ none [] rfl ?_
     refine tpp 0 ?_
     refine tpp 1 ?_
     refine tpp 2 ?_
     refine tp 3 rfl (by exact y_slice sl_136 rfl 0 (partH dp dq) h76.cap rfl ⟨_, _, rfl, rfl⟩ rfl (by simp) (by omega) (by omega) (by omega)) ?_
     refine tpp 5 ?_
     refine tpp 6 ?_
     refine tp 7 rfl (by exact y_slice sl_72 rfl 0 (partH dp dq) h86.cap rfl ⟨_, _, rfl, rfl⟩ rfl (by simp) (by omega) (by omega) (by omega)) ?_
     refine va_ready [4] (by kernel_rfl) rfl ?_
     refine vo_cons rfl (fun hC0 => ?_) ?_
     ·skip
      refine vc_callv ca_195 (us := []) (vs := []) rfl [_] rfl [1] rfl (cloneS_spec (Sl.vis.imp fun w r => r.cutL (by rw [List.length_append]; omega)) (by simp only [List.length_take, List.length_append]; omega)) rfl ?_
      rintro _ _ ⟨h109, rfl, rfl⟩
      refine vc_nil ?_
      refine vc_then ?_
      refine va_kept hC0 [] rfl ?_
      clear hC0
      refine va_ready [8] (by kernel_rfl) rfl ?_
      refine vo_cons rfl (fun hC0 => ?_) ?_
      ·skip
       refine vc_callv ca_196 (us := []) (vs := []) rfl [_] rfl [3] rfl (cloneI_spec (Sl.vis.imp fun w r => r.cutL (by rw [List.length_append]; omega)) (by simp only [List.length_take, List.length_append]; omega)) rfl ?_
       rintro _ _ ⟨h113, rfl, rfl⟩
       refine vc_nil ?_
       refine vc_then ?_
       refine va_kept hC0 [] rfl ?_
       clear hC0
       refine tp 9 rfl (by exact y_build [(0, _), (1, _)] [_, _, _] rfl (bu_231_0_1 _ _ rfl rfl)) ?_
       refine tpp 10 ?_
       refine va_ready [11] (by kernel_rfl) rfl ?_
       refine vo_cons rfl (fun hC0 => ?_) ?_
       ·skip
        refine vc_storeE 4 rfl [_, _, _] ⟨h109, h113, nilS⟩ rfl rfl rfl sz_231 rfl hg1 (Nat.le_of_ble_eq_true rfl) rfl ?_
        refine vc_nil ?_
        refine vc_then ?_
        refine va_kept hC0 [] rfl ?_
        clear hC0
        refine va_done (by kernel_rfl) ?_
        refine vc_then ?_
        refine vc_seq ?_
        refine vc_draw (by kernel_rfl) _ none [] rfl ?_
        refine tpp 0 ?_
        refine tpp 1 ?_
        refine tpp 2 ?_
        refine tp 3 rfl (by exact y_slice sl_136 rfl (partH dp dq) h76.len h76.cap ⟨_, _, rfl, rfl⟩ rfl rfl (by simp) (by omega) (by omega) (by omega)) ?_
        refine tpp 5 ?_
        refine tpp 6 ?_
        refine tp 7 rfl (by exact y_slice sl_72 rfl (partH dp dq) h86.len h86.cap ⟨_, _, rfl, rfl⟩ rfl rfl (by simp) (by omega) (by omega) (by omega)) ?_
        refine va_ready [4] (by kernel_rfl) rfl ?_
        refine vo_cons rfl (fun hC0 => ?_) ?_
        ·skip
         refine vc_callv ca_195 (us := []) (vs := []) rfl [_] rfl [3] rfl (cloneS_spec (Sl.vis.imp fun w r => r.cutD (by rw [List.length_append]; omega)) (by simp only [List.length_drop, List.length_append]; omega)) rfl ?_
         rintro _ _ ⟨h120, rfl, rfl⟩
         refine vc_nil ?_
         refine vc_then ?_
         refine va_kept hC0 [] rfl ?_
         clear hC0
         refine va_ready [8] (by kernel_rfl) rfl ?_
         refine vo_cons rfl (fun hC0 => ?_) ?_
         ·skip
          refine vc_callv ca_196 (us := []) (vs := []) rfl [_] rfl [3] rfl (cloneI_spec (Sl.vis.imp fun w r => r.cutD (by rw [List.length_append]; omega)) (by simp only [List.length_drop, List.length_append]; omega)) rfl ?_
          rintro _ _ ⟨h124, rfl, rfl⟩
          refine vc_nil ?_
          refine vc_then ?_
          refine va_kept hC0 [] rfl ?_
          clear hC0
          refine tp 9 rfl (by exact y_build [(0, _), (1, _)] [_, _, _] rfl (bu_231_0_1 _ _ rfl rfl)) ?_
          refine tpp 10 ?_
          refine va_ready [11] (by kernel_rfl) rfl ?_
          refine vo_cons rfl (fun hC0 => ?_) ?_
          ·skip
           refine vc_storeE 6 rfl [_, _, _] ⟨h120, h124, nilS⟩ rfl rfl rfl sz_231 rfl ((List.getElem?_set_ne hpq).trans hhq1) (Nat.le_of_ble_eq_true rfl) rfl ?_
           refine vc_nil ?_
           refine vc_then ?_
           refine va_kept hC0 [] rfl ?_
           clear hC0
           refine va_done (by kernel_rfl) ?_
           refine vc_then ?_
           refine vc_seq ?_
           refine vc_openX 8 rfl (ho := [p]) (by simp; omega) hhx hd ?_
           refine vc_draw (by kernel_rfl) _ (some 11) [10, 7, 0] rfl ?_
           refine tpp 0 ?_
           refine tpp 1 ?_
           refine tp 2 rfl (by exact y_fieldE fl_231_0 0 rfl rfl) ?_
           refine tk 3 rfl (by exact y_load1 0 rfl one_136 rfl (Rd.vis1 (Sl.vis) ((List.getElem?_set_ne (Ne.symm hxq)).trans ((List.getElem?_set_ne (Ne.symm hxp)).trans hhx1)) rfl)) ?_
           refine tpp 4 ?_
           refine tp 5 rfl (by exact y_arith ((w - 1 : Nat) : Int) rfl (wrapNsub (by omega))) ?_
           refine tpp 6 ?_
           refine tpp 7 ?_
           refine tk 8 rfl (by exact y_elem 1 rfl (Sl.vis) (partH dp dq) rfl (getLt ht) sl_136 rfl rfl) ?_
           refine tk 9 rfl (by exact y_load1 1 rfl one_9 rfl (Rd.vis1 (Sl.vis) ht rfl)) ?_
           refine tk 10 rfl (by exact y_elem 2 rfl (Sl.vis) (w - 1) rfl (getLt hs0) sl_136 rfl rfl) ?_
           refine va_ready [11] (by kernel_rfl) rfl ?_
           refine vo_cons rfl (fun hC0 => ?_) ?_
           ·skip
            refine vc_storeE 0 rfl [_] t rfl rfl rfl sz_9 rfl (List.getElem?_eq_getElem (getLt hs0)) (Nat.le_of_ble_eq_true rfl) rfl ?_
            refine vc_nil ?_
            refine vc_then ?_
            refine va_gone hC0 (by kernel_rfl) ?_
            clear hC0
            refine va_done (by kernel_rfl) ?_
            refine vc_then ?_
            refine vc_ret ?_
            refine vc_thenRet ?_
            have k0 : ∀ j, j ≠ q → j ≠ p → ((hs1.set p ⟨h109, h113, nilS⟩).set q ⟨h120, h124, nilS⟩)[j]? = hs[j]? := fun j h1 h2 => by rw [List.getElem?_set_ne (Ne.symm h1), List.getElem?_set_ne (Ne.symm h2)]; exact ho1 j h2
            have k1 : ((hs1.set p ⟨h109, h113, nilS⟩).set q ⟨h120, h124, nilS⟩)[q]? = some ⟨h120, h124, nilS⟩ := List.getElem?_set_self (by rw [List.length_set]; exact getLt hhq1)
            have k2 : ((hs1.set p ⟨h109, h113, nilS⟩).set q ⟨h120, h124, nilS⟩)[p]? = some ⟨h109, h113, nilS⟩ := by rw [List.getElem?_set_ne (Ne.symm hpq)]; exact List.getElem?_set_self (getLt hg1)
            have k3 : ((hs1.set p ⟨h109, h113, nilS⟩).set q ⟨h120, h124, nilS⟩)[x]? = some hx := by rw [k0 x hxq hxp]; exact hhx
            have k4 : (((l.set p (partA dp dq s)).set q (partB dp dq s)).set x ⟨d.keys.set (w - 1) t, d.nums, d.kids⟩)[q]? = some (partB dp dq s) := by rw [List.getElem?_set_ne hxq]; exact List.getElem?_set_self (by rw [List.length_set]; exact getLt hdq)
            have k5 : (((l.set p (partA dp dq s)).set q (partB dp dq s)).set x ⟨d.keys.set (w - 1) t, d.nums, d.kids⟩)[p]? = some (partA dp dq s) := by rw [List.getElem?_set_ne hxp, List.getElem?_set_ne (Ne.symm hpq)]; exact List.getElem?_set_self (getLt hdp)
            have k6 : (((l.set p (partA dp dq s)).set q (partB dp dq s)).set x ⟨d.keys.set (w - 1) t, d.nums, d.kids⟩)[x]? = some ⟨d.keys.set (w - 1) t, d.nums, d.kids⟩ := List.getElem?_set_self (by rw [List.length_set, List.length_set]; exact getLt hd)
            have k7 : ∀ j, j ≠ q → j ≠ p → j ≠ x → (((l.set p (partA dp dq s)).set q (partB dp dq s)).set x ⟨d.keys.set (w - 1) t, d.nums, d.kids⟩)[j]? = l[j]? := fun j h1 h2 h3 => by rw [List.getElem?_set_ne (Ne.symm h3), List.getElem?_set_ne (Ne.symm h1), List.getElem?_set_ne (Ne.symm h2)]
            have k8 : (((l.set p (partA dp dq s)).set q (partB dp dq s)).set x ⟨d.keys.set (w - 1) t, d.nums, d.kids⟩).length = l.length := by simp
            have k9 : ((hs1.set p ⟨h109, h113, nilS⟩).set q ⟨h120, h124, nilS⟩).length = (((l.set p (partA dp dq s)).set q (partB dp dq s)).set x ⟨d.keys.set (w - 1) t, d.nums, d.kids⟩).length := by simp [ln1]
            obtain ⟨hs3, ehs3⟩ : ∃ z, z = ((hs1.set p ⟨h109, h113, nilS⟩).set q ⟨h120, h124, nilS⟩) := ⟨_, rfl⟩
            obtain ⟨l3, el3⟩ : ∃ z, z = (((l.set p (partA dp dq s)).set q (partB dp dq s)).set x ⟨d.keys.set (w - 1) t, d.nums, d.kids⟩) := ⟨_, rfl⟩
            rw [← ehs3] at k0 k1 k2 k3 k9 ⊢
            rw [← el3] at k4 k5 k6 k7 k8 k9 ⊢
            rw [hA0] at k5
            rw [hB0] at k4
            have hqx : q ∉ [x, p] := by simp; omega
            have hpk0 : p ∉ ([] : List Nat) := List.not_mem_nil
            refine vc_ent (l' := TO b ⟨l3, fr, r, m⟩ hl hf hs3) (ent_at [0, 0, 0, 0, 5, 4, 2, 0, 4, 2, 3] rfl ?_) ?_
            ·refine (ent_cons (ent_cons (ent_cons (ent_head (NodesX.hole hqx hhq hdq))))).trans ?_
             refine (ent_pick [6, 6, 3, 0, 0, 0, 0, 0, 0, 0, 0] rfl).trans ?_
             refine (ent_cons (ent_cons (sl_new (E := eNat)))).trans ?_
             refine (ent_closeX (ho := [x, p]) (hs' := hs3) (ds' := l3) ⟨h120, h124, nilS⟩ ⟨(allK dp dq s).drop (partH dp dq), (dp.nums ++ dq.nums).drop (partH dp dq), []⟩ hqx k1 k4 k8 (fun j h1 h2 => k0 j h1 (by simp at h2; exact h2.2)) (fun j h1 h2 => k7 j h1 (by simp at h2; exact h2.2) (by simp at h2; exact h2.1))).trans ?_
             refine (ent_pick [1, 1, 1, 0, 0, 0, 0, 0, 0] rfl).trans ?_
             refine (ent_closeX (ho := [p]) (hs' := hs3) (ds' := l3) hx ⟨d.keys.set (w - 1) t, d.nums, d.kids⟩ hxno k3 k6 rfl (fun j _ _ => rfl) (fun j _ _ => rfl)).trans ?_
             refine (ent_pick [1, 1, 0, 0, 0, 0] rfl).trans ?_
             refine (ent_cons (ent_cons (sl_new (E := eNat)))).trans ?_
             refine (ent_closeN (hs' := hs3) (ds' := l3) ⟨h109, h113, nilS⟩ ⟨(allK dp dq s).take (partH dp dq), (dp.nums ++ dq.nums).take (partH dp dq), []⟩ k2 k5 rfl (fun j _ => rfl) (fun j _ => rfl)).trans ?_
             exact ent_pick [1, 1, 1, 0] rfl
            exact vc_end0 Tryz.results192  _ (ent_pick [0, 0, 0, 0] rfl) ⟨hf, hs3, k9, fun j h1 h2 h3 => k0 j h3 h2, rfl, rfl⟩
           exact vo_nil
          exact vo_nil
         exact vo_nil
        exact vo_nil
       exact vo_nil
      exact vo_nil
     exact vo_nil
    ·skip
     have hpk : dp.kids ≠ [] := by simpa using c104
     obtain ⟨hqk, hpn, hqn⟩ := hn0 hpk
     have hzp : sizeN dp = dp.kids.length := by simp [sizeN, leafN, hpk]
     have hzq : sizeN dq = dq.kids.length := by simp [sizeN, leafN, hqk]
     have hK : partK dp dq = partH dp dq - 1 := by simp [partK, hpk]
     rw [hK] at ht
     have hka2 : ((if dp.kids = [] then dp.keys else dp.keys ++ [s])).length = dp.keys.length + 1 := by rw [if_neg hpk]; simp
     have hA0 : partA dp dq s = ⟨(allK dp dq s).take (partH dp dq - 1), [], (dp.kids ++ dq.kids).take (partH dp dq)⟩ := by simp [partA, hpk]
     have hB0 : partB dp dq s = ⟨(allK dp dq s).drop (partH dp dq), [], (dp.kids ++ dq.kids).drop (partH dp dq)⟩ := by simp [partB, hpk]
     refine vc_skip ?_
     refine vc_then ?_
     refine vc_seq ?_
     refine vc_draw (by kernel_rfl) _ none [] rfl ?_
     refine tpp 0 ?_
     refine tpp 1 ?_
     refine tpp 2 ?_
     refine tp 3 rfl (by exact y_arith ((partH dp dq - 1 : Nat) : Int) rfl (wrapNsub (by omega))) ?_
     refine tp 4 rfl (by exact y_slice sl_136 rfl 0 (partH dp dq - 1) h76.cap rfl ⟨_, _, rfl, rfl⟩ rfl (by simp) (by omega) (by omega) (by omega)) ?_
     refine tpp 6 ?_
     refine tpp 7 ?_
     refine tp 8 rfl (by exact y_slice sl_72 rfl 0 (partH dp dq) h96.cap rfl ⟨_, _, rfl, rfl⟩ rfl (by simp) (by omega) (by omega) (by omega)) ?_
     refine va_ready [5] (by kernel_rfl) rfl ?_
     refine vo_cons rfl (fun hC0 => ?_) ?_
     ·skip
      refine vc_callv ca_195 (us := []) (vs := []) rfl [_] rfl [1] rfl (cloneS_spec (Sl.vis.imp fun w r => r.cutL (by rw [List.length_append]; omega)) (by simp only [List.length_take, List.length_append]; omega)) rfl ?_
      rintro _ _ ⟨h143, rfl, rfl⟩
      refine vc_nil ?_
      refine vc_then ?_
      refine va_kept hC0 [] rfl ?_
      clear hC0
      refine va_ready [9] (by kernel_rfl) rfl ?_
      refine vo_cons rfl (fun hC0 => ?_) ?_
      ·skip
       refine vc_callv ca_196 (us := []) (vs := []) rfl [_] rfl [4] rfl (cloneN_spec (Sl.vis.imp fun w r => r.cutL (by rw [List.length_append]; omega)) (by simp only [List.length_take, List.length_append]; omega)) rfl ?_
       rintro _ _ ⟨h147, rfl, rfl⟩
       refine vc_nil ?_
       refine vc_then ?_
       refine va_kept hC0 [] rfl ?_
       clear hC0
       refine tp 10 rfl (by exact y_build [(0, _), (2, _)] [_, _, _] rfl (bu_231_0_2 _ _ rfl rfl)) ?_
       refine tpp 11 ?_
       refine va_ready [12] (by kernel_rfl) rfl ?_
       refine vo_cons rfl (fun hC0 => ?_) ?_
       ·skip
        refine vc_storeE 4 rfl [_, _, _] ⟨h143, nilS, h147⟩ rfl rfl rfl sz_231 rfl hg1 (Nat.le_of_ble_eq_true rfl) rfl ?_
        refine vc_nil ?_
        refine vc_then ?_
        refine va_kept hC0 [] rfl ?_
        clear hC0
        refine va_done (by kernel_rfl) ?_
        refine vc_then ?_
        refine vc_seq ?_
        refine vc_draw (by kernel_rfl) _ none [] rfl ?_
        refine tpp 0 ?_
        refine tpp 1 ?_
        refine tpp 2 ?_
        refine tp 3 rfl (by exact y_slice sl_136 rfl (partH dp dq) h76.len h76.cap ⟨_, _, rfl, rfl⟩ rfl rfl (by simp) (by omega) (by omega) (by omega)) ?_
        refine tpp 5 ?_
        refine tpp 6 ?_
        refine tp 7 rfl (by exact y_slice sl_72 rfl (partH dp dq) h96.len h96.cap ⟨_, _, rfl, rfl⟩ rfl rfl (by simp) (by omega) (by omega) (by omega)) ?_
        refine va_ready [4] (by kernel_rfl) rfl ?_
        refine vo_cons rfl (fun hC0 => ?_) ?_
        ·skip
         refine vc_callv ca_195 (us := []) (vs := []) rfl [_] rfl [3] rfl (cloneS_spec (Sl.vis.imp fun w r => r.cutD (by rw [List.length_append]; omega)) (by simp only [List.length_drop, List.length_append]; omega)) rfl ?_
         rintro _ _ ⟨h154, rfl, rfl⟩
         refine vc_nil ?_
         refine vc_then ?_
         refine va_kept hC0 [] rfl ?_
         clear hC0
         refine va_ready [8] (by kernel_rfl) rfl ?_
         refine vo_cons rfl (fun hC0 => ?_) ?_
         ·skip
          refine vc_callv ca_196 (us := []) (vs := []) rfl [_] rfl [3] rfl (cloneN_spec (Sl.vis.imp fun w r => r.cutD (by rw [List.length_append]; omega)) (by simp only [List.length_drop, List.length_append]; omega)) rfl ?_
          rintro _ _ ⟨h158, rfl, rfl⟩
          refine vc_nil ?_
          refine vc_then ?_
          refine va_kept hC0 [] rfl ?_
          clear hC0
          refine tp 9 rfl (by exact y_build [(0, _), (2, _)] [_, _, _] rfl (bu_231_0_2 _ _ rfl rfl)) ?_
          refine tpp 10 ?_
          refine va_ready [11] (by kernel_rfl) rfl ?_
          refine vo_cons rfl (fun hC0 => ?_) ?_
          ·skip
           refine vc_storeE 6 rfl [_, _, _] ⟨h154, nilS, h158⟩ rfl rfl rfl sz_231 rfl ((List.getElem?_set_ne hpq).trans hhq1) (Nat.le_of_ble_eq_true rfl) rfl ?_
           refine vc_nil ?_
           refine vc_then ?_
           refine va_kept hC0 [] rfl ?_
           clear hC0
           refine va_done (by kernel_rfl) ?_
           refine vc_then ?_
           refine vc_openX 8 rfl (ho := [p]) (by simp; omega) hhx hd ?_
           refine vc_draw (by kernel_rfl) _ (some 12) [10, 7, 0] rfl ?_
           refine tpp 0 ?_
           refine tpp 1 ?_
           refine tp 2 rfl (by exact y_fieldE fl_231_0 0 rfl rfl) ?_
           refine tk 3 rfl (by exact y_load1 0 rfl one_136 rfl (Rd.vis1 (Sl.vis) ((List.getElem?_set_ne (Ne.symm hxq)).trans ((List.getElem?_set_ne (Ne.symm hxp)).trans hhx1)) rfl)) ?_
           refine tpp 4 ?_
           refine tp 5 rfl (by exact y_arith ((w - 1 : Nat) : Int) rfl (wrapNsub (by omega))) ?_
           refine tpp 6 ?_
           refine tpp 7 ?_
           refine tp 8 rfl (by exact y_arith ((partH dp dq - 1 : Nat) : Int) rfl (wrapNsub (by omega))) ?_
           refine tk 9 rfl (by exact y_elem 1 rfl (Sl.vis) (partH dp dq - 1) rfl (getLt ht) sl_136 rfl rfl) ?_
           refine tk 10 rfl (by exact y_load1 1 rfl one_9 rfl (Rd.vis1 (Sl.vis) ht rfl)) ?_
           refine tk 11 rfl (by exact y_elem 2 rfl (Sl.vis) (w - 1) rfl (getLt hs0) sl_136 rfl rfl) ?_
           refine va_ready [12] (by kernel_rfl) rfl ?_
           refine vo_cons rfl (fun hC0 => ?_) ?_
           ·skip
            refine vc_storeE 0 rfl [_] t rfl rfl rfl sz_9 rfl (List.getElem?_eq_getElem (getLt hs0)) (Nat.le_of_ble_eq_true rfl) rfl ?_
            refine vc_nil ?_
            refine vc_then ?_
            refine va_gone hC0 (by kernel_rfl) ?_
            clear hC0
            refine va_done (by kernel_rfl) ?_
            have k0 : ∀ j, j ≠ q → j ≠ p → ((hs1.set p ⟨h143, nilS, h147⟩).set q ⟨h154, nilS, h158⟩)[j]? = hs[j]? := fun j h1 h2 => by rw [List.getElem?_set_ne (Ne.symm h1), List.getElem?_set_ne (Ne.symm h2)]; exact ho1 j h2
            have k1 : ((hs1.set p ⟨h143, nilS, h147⟩).set q ⟨h154, nilS, h158⟩)[q]? = some ⟨h154, nilS, h158⟩ := List.getElem?_set_self (by rw [List.length_set]; exact getLt hhq1)
            have k2 : ((hs1.set p ⟨h143, nilS, h147⟩).set q ⟨h154, nilS, h158⟩)[p]? = some ⟨h143, nilS, h147⟩ := by rw [List.getElem?_set_ne (Ne.symm hpq)]; exact List.getElem?_set_self (getLt hg1)
            have k3 : ((hs1.set p ⟨h143, nilS, h147⟩).set q ⟨h154, nilS, h158⟩)[x]? = some hx := by rw [k0 x hxq hxp]; exact hhx
            have k4 : (((l.set p (partA dp dq s)).set q (partB dp dq s)).set x ⟨d.keys.set (w - 1) t, d.nums, d.kids⟩)[q]? = some (partB dp dq s) := by rw [List.getElem?_set_ne hxq]; exact List.getElem?_set_self (by rw [List.length_set]; exact getLt hdq)
            have k5 : (((l.set p (partA dp dq s)).set q (partB dp dq s)).set x ⟨d.keys.set (w - 1) t, d.nums, d.kids⟩)[p]? = some (partA dp dq s) := by rw [List.getElem?_set_ne hxp, List.getElem?_set_ne (Ne.symm hpq)]; exact List.getElem?_set_self (getLt hdp)
            have k6 : (((l.set p (partA dp dq s)).set q (partB dp dq s)).set x ⟨d.keys.set (w - 1) t, d.nums, d.kids⟩)[x]? = some ⟨d.keys.set (w - 1) t, d.nums, d.kids⟩ := List.getElem?_set_self (by rw [List.length_set, List.length_set]; exact getLt hd)
            have k7 : ∀ j, j ≠ q → j ≠ p → j ≠ x → (((l.set p (partA dp dq s)).set q (partB dp dq s)).set x ⟨d.keys.set (w - 1) t, d.nums, d.kids⟩)[j]? = l[j]? := fun j h1 h2 h3 => by rw [List.getElem?_set_ne (Ne.symm h3), List.getElem?_set_ne (Ne.symm h1), List.getElem?_set_ne (Ne.symm h2)]
            have k8 : (((l.set p (partA dp dq s)).set q (partB dp dq s)).set x ⟨d.keys.set (w - 1) t, d.nums, d.kids⟩).length = l.length := by simp
            have k9 : ((hs1.set p ⟨h143, nilS, h147⟩).set q ⟨h154, nilS, h158⟩).length = (((l.set p (partA dp dq s)).set q (partB dp dq s)).set x ⟨d.keys.set (w - 1) t, d.nums, d.kids⟩).length := by simp [ln1]
            obtain ⟨hs3, ehs3⟩ : ∃ z, z = ((hs1.set p ⟨h143, nilS, h147⟩).set q ⟨h154, nilS, h158⟩) := ⟨_, rfl⟩
            obtain ⟨l3, el3⟩ : ∃ z, z = (((l.set p (partA dp dq s)).set q (partB dp dq s)).set x ⟨d.keys.set (w - 1) t, d.nums, d.kids⟩) := ⟨_, rfl⟩
            rw [← ehs3] at k0 k1 k2 k3 k9 ⊢
            rw [← el3] at k4 k5 k6 k7 k8 k9 ⊢
            rw [hA0] at k5
            rw [hB0] at k4
            have hqx : q ∉ [x, p] := by simp; omega
            have hpk0 : p ∉ ([] : List Nat) := List.not_mem_nil
            refine vc_ent (l' := TO b ⟨l3, fr, r, m⟩ hl hf hs3) (ent_at [0, 0, 0, 0, 5, 4, 2, 0, 4, 2, 3] rfl ?_) ?_
            ·refine (ent_cons (ent_cons (ent_cons (ent_head (NodesX.hole hqx hhq hdq))))).trans ?_
             refine (ent_pick [6, 6, 3, 0, 0, 0, 0, 0, 0, 0, 0] rfl).trans ?_
             refine (ent_cons (sl_new (E := eInt))).trans ?_
             refine (ent_closeX (ho := [x, p]) (hs' := hs3) (ds' := l3) ⟨h154, nilS, h158⟩ ⟨(allK dp dq s).drop (partH dp dq), [], (dp.kids ++ dq.kids).drop (partH dp dq)⟩ hqx k1 k4 k8 (fun j h1 h2 => k0 j h1 (by simp at h2; exact h2.2)) (fun j h1 h2 => k7 j h1 (by simp at h2; exact h2.2) (by simp at h2; exact h2.1))).trans ?_
             refine (ent_pick [1, 1, 1, 0, 0, 0, 0, 0, 0] rfl).trans ?_
             refine (ent_closeX (ho := [p]) (hs' := hs3) (ds' := l3) hx ⟨d.keys.set (w - 1) t, d.nums, d.kids⟩ hxno k3 k6 rfl (fun j _ _ => rfl) (fun j _ _ => rfl)).trans ?_
             refine (ent_pick [1, 1, 0, 0, 0, 0] rfl).trans ?_
             refine (ent_cons (sl_new (E := eInt))).trans ?_
             refine (ent_closeN (hs' := hs3) (ds' := l3) ⟨h143, nilS, h147⟩ ⟨(allK dp dq s).take (partH dp dq - 1), [], (dp.kids ++ dq.kids).take (partH dp dq)⟩ k2 k5 rfl (fun j _ => rfl) (fun j _ => rfl)).trans ?_
             exact ent_pick [1, 1, 1, 0] rfl
            exact vc_end0n Tryz.results192 _ (ent_pick [0, 0, 0, 0] rfl) ⟨hf, hs3, k9, fun j h1 h2 h3 => k0 j h3 h2, rfl, rfl⟩
           exact vo_nil
          exact vo_nil
         exact vo_nil
        exact vo_nil
       exact vo_nil
      exact vo_nil
     exact vo_nil
   exact vo_nil
  exact vo_nil
end Go.Proofs.YtcpbibdbahfgaaaGreat
namespace Go.Proofs.YtcpbibdbahfgaaaGreat
open Go.Eng
namespace FTree9
theorem fl_204_0 : Fld Tryz.prog 204 0 0 := ⟨_, _, 0, Tryz.underlying204, rfl, rfl, by kernel_rfl⟩
theorem one_202 : TyOne Tryz.prog 202 := ⟨⟨_, Tryz.underlying202, rfl⟩, by kernel_rfl⟩
theorem sl_202 : TySl Tryz.prog 202 231 3 := ⟨Tryz.underlying202, by kernel_rfl⟩
theorem ca_163 : Callable Tryz.prog 163 := ⟨_, _, Tryz.func163, rfl, rfl⟩
theorem fl_231_0 : Fld Tryz.prog 231 0 0 := ⟨_, _, 0, Tryz.underlying231, rfl, rfl, by kernel_rfl⟩
theorem one_136 : TyOne Tryz.prog 136 := ⟨⟨_, Tryz.underlying136, rfl⟩, by kernel_rfl⟩
theorem ca_168 : Callable Tryz.prog 168 := ⟨_, _, Tryz.func168, rfl, rfl⟩
theorem fl_231_1 : Fld Tryz.prog 231 1 1 := ⟨_, _, 0, Tryz.underlying231, rfl, rfl, by kernel_rfl⟩
theorem one_72 : TyOne Tryz.prog 72 := ⟨⟨_, Tryz.underlying72, rfl⟩, by kernel_rfl⟩
theorem ca_190 : Callable Tryz.prog 190 := ⟨_, _, Tryz.func190, rfl, rfl⟩
theorem ca_191 : Callable Tryz.prog 191 := ⟨_, _, Tryz.func191, rfl, rfl⟩
theorem sz_136 : (Tryz.prog.info? 136).map (·.size) = some 1 := by kernel_rfl
theorem sz_72 : (Tryz.prog.info? 72).map (·.size) = some 1 := by kernel_rfl
theorem ca_169 : Callable Tryz.prog 169 := ⟨_, _, Tryz.func169, rfl, rfl⟩
theorem fl_231_2 : Fld Tryz.prog 231 2 2 := ⟨_, _, 0, Tryz.underlying231, rfl, rfl, by kernel_rfl⟩
theorem sl_72 : TySl Tryz.prog 72 3 1 := ⟨Tryz.underlying72, by kernel_rfl⟩
theorem one_3 : TyOne Tryz.prog 3 := ⟨⟨_, Tryz.underlying3, rfl⟩, by kernel_rfl⟩
theorem ca_161 : Callable Tryz.prog 161 := ⟨_, _, Tryz.func161, rfl, rfl⟩
theorem ca_166 : Callable Tryz.prog 166 := ⟨_, _, Tryz.func166, rfl, rfl⟩
theorem ca_192 : Callable Tryz.prog 192 := ⟨_, _, Tryz.func192, rfl, rfl⟩
end FTree9
open FTree9
theorem mend_spec {b : Nat} {l l' : List Nd} {fr fr' : List Nat} {r : Option Nat} {m : Int} {hl hf : SH} {hs : List Nd3} (hlen : hs.length = l.length) {x w : Nat} (hM : MendR l fr x w l' fr') (hfr : fr.length ≤ 1000000) :
    Does Tryz.prog 192 [.pointer (some ⟨b, 0, none⟩), .pointer (some (eAd hl 3 x 0)), .int .i64 (w : Int)] (TO b ⟨l, fr, r, m⟩ hl hf hs) (fun v l2 => ∃ hf' hs', hs'.length = l'.length ∧ v = .tuple #[] ∧ l2 = TO b ⟨l', fr', r, m⟩ hl hf' hs') := by
  cases hM with
  | join d da db a b s hC hs hb => exact (mend_join hlen hC hb hs).imp fun v l2 ⟨hf', hs', h1, _, h2, h3⟩ => ⟨hf', hs', h1, h2, h3⟩
  | part d da db a b s t hC hs ht hl hn => exact (mend_part hlen hC hfr hs ht hl hn).imp fun v l2 ⟨hf', hs', h1, _, h2, h3⟩ => ⟨hf', hs', h1, h2, h3⟩
theorem DelR.inv {key : ByteArray} {f : Nat} {l l' : List Nd} {fr fr' : List Nat} {i : Nat} (h : DelR key f l fr i l' fr') : ∃ f' d, f = f' + 1 ∧ l[i]? = some d ∧ Good d ∧
    ((d.kids = [] ∧ d.nums.length = d.keys.length ∧ lb d.keys key < d.keys.length ∧ l' = l.set i (delL d key) ∧ fr' = fr) ∨
     (d.kids ≠ [] ∧ ∃ c dc l1 fr1, d.kids[wayN d key]? = some c ∧ DelR key f' l fr c l1 fr1 ∧ l1[i]? = some d ∧ l1[c]? = some dc ∧ Good dc ∧ fr1.length ≤ 1000000 ∧
      ((2 ≤ sizeN dc ∧ l' = l1 ∧ fr' = fr1) ∨ (sizeN dc < 2 ∧ MendR l1 fr1 i (max (wayN d key) 1) l' fr')))) := by
  cases h with
  | leaf d hd hg hk hn hf => exact ⟨_, d, rfl, hd, hg, .inl ⟨hk, hn, hf, rfl, rfl⟩⟩
  | deep d dc c hd hg hk hc hp hd1 hdc hgc hs hb => exact ⟨_, d, rfl, hd, hg, .inr ⟨hk, c, dc, _, _, hc, hp, hd1, hdc, hgc, hb, .inl ⟨hs, rfl, rfl⟩⟩⟩
  | mend d dc c hd hg hk hc hp hd1 hdc hgc hs hb hm => exact ⟨_, d, rfl, hd, hg, .inr ⟨hk, c, dc, _, _, hc, hp, hd1, hdc, hgc, hb, .inr ⟨hs, hm⟩⟩⟩
theorem del_step {b : Nat} {l l' : List Nd} {fr fr' : List Nat} {r : Option Nat} {m : Int} {hl hf : SH} {hs : List Nd3} (hlen : hs.length = l.length) (key : ByteArray) {f i : Nat} (hp : DelR key (f + 1) l fr i l' fr')
    (ih : ∀ (c : Nat) (l1 : List Nd) (fr1 : List Nat), DelR key f l fr c l1 fr1 → Does Tryz.prog 161 [.pointer (some ⟨b, 0, none⟩), .int .i64 (c : Int), .string key] (TO b ⟨l, fr, r, m⟩ hl hf hs) (fun v l2 => ∃ hf' hs', hs'.length = l1.length ∧ v = .tuple #[] ∧ l2 = TO b ⟨l1, fr1, r, m⟩ hl hf' hs')) :
    Does Tryz.prog 161 [.pointer (some ⟨b, 0, none⟩), .int .i64 (i : Int), .string key] (TO b ⟨l, fr, r, m⟩ hl hf hs) (fun v l2 => ∃ hf' hs', hs'.length = l'.length ∧ v = .tuple #[] ∧ l2 = TO b ⟨l', fr', r, m⟩ hl hf' hs') := by
  refine spec_of Tryz.func161 rfl Tryz.ntmps161 Tryz.results161 _ (by simp) fun ι F => ?_
  obtain ⟨f', d, hf', hd, hg, hcase⟩ := hp.inv
  obtain rfl := Nat.succ.inj hf'
  obtain ⟨h, hh⟩ := getSome hlen hd
  obtain ⟨hgr, hgk, hgn, hgc⟩ := hg
  refine vc_see 3 rfl ((Nodes.visK hh hd).imp fun w r => r.len) (fun ek0 => ?_)
  refine vc_see 3 rfl ((Nodes.visN hh hd).imp fun w r => r.len) (fun en0 => ?_)
  refine vc_see 3 rfl ((Nodes.visC hh hd).imp fun w r => r.len) (fun ec0 => ?_)
  have hlb := lb_le d.keys key
  have hwl := wayN_le d key
  refine vc_seq ?_
  refine vc_region ?_
  refine vp ?_
  refine vp ?_
  refine vc_y (y_fieldP fl_204_0 0 rfl rfl) rfl ?_
  refine vc_y (y_load1 0 rfl one_202 rfl (Pts.vis rfl)) rfl ?_
  refine vp ?_
  refine vc_y (y_elem 1 rfl (Sl.vis) i rfl (getLt hh) sl_202 rfl rfl) rfl ?_
  refine vp ?_
  refine vc_nil ?_
  refine vc_then ?_
  refine vc_seq ?_
  refine vc_seq ?_
  refine vc_region ?_
  refine vp ?_
  refine vc_callv ca_163 (us := []) (vs := []) rfl [_] rfl [1] rfl (leaf_specD (h := h) (d := d) (Rd.vis1 Sl.vis hh rfl) ec0) rfl ?_
  rintro _ _ ⟨rfl, rfl⟩
  refine vc_nil ?_
  refine vc_then ?_
  first | refine vc_condP rfl (fun c17 => ?_) (fun c17 => ?_) | refine vc_condN rfl (fun c17 => ?_) (fun c17 => ?_) | refine vc_cond rfl (fun c17 => ?_) (fun c17 => ?_)
  · skip
    have hk0 : d.kids = [] := by simpa using c17
    obtain ⟨hn, hfl, rfl, rfl⟩ : d.nums.length = d.keys.length ∧ lb d.keys key < d.keys.length ∧ l' = l.set i (delL d key) ∧ fr' = fr := by
      rcases hcase with h0 | h0
      · exact h0.2
      · exact absurd hk0 h0.1
    refine vc_seq ?_
    refine vc_region ?_
    refine vp ?_
    refine vp ?_
    refine vc_y (y_fieldE fl_231_0 0 rfl rfl) rfl ?_
    refine vc_y (y_load1 0 rfl one_136 rfl (Rd.vis1 (Sl.vis) hh rfl)) rfl ?_
    refine vp ?_
    refine vc_callv ca_168 (us := []) (vs := []) rfl [_, _] rfl [3] rfl (bsS_spec (Nodes.visK hh hd) hgr key (by omega)) rfl ?_
    rintro _ _ ⟨rfl, rfl⟩
    iterate 5 refine vp ?_
    refine vc_nil ?_
    refine vc_then ?_
    refine vc_seq ?_
    refine vc_openN 0 rfl hh hd ?_
    refine vc_draw (by kernel_rfl) _ (some 20) [4] rfl ?_
    refine tpp 0 ?_
    refine tpp 1 ?_
    refine tpp 2 ?_
    refine tpp 3 ?_
    refine tp 4 rfl (by exact y_fieldE fl_231_0 0 rfl rfl) ?_
    refine tk 5 rfl (by exact y_load1 0 rfl one_136 rfl (Rd.vis1 (Sl.vis) hh rfl)) ?_
    refine tpp 6 ?_
    refine tpp 7 ?_
    refine tp 8 rfl (by exact y_arith ((lb d.keys key + 1 : Nat) : Int) rfl (wrapNadd (by omega))) ?_
    refine tpp 10 ?_
    refine tpp 11 ?_
    refine tp 12 rfl (by exact y_fieldE fl_231_1 1 rfl rfl) ?_
    refine tk 13 rfl (by exact y_load1 0 rfl one_72 rfl (Rd.vis1 (Sl.vis) hh rfl)) ?_
    refine tpp 14 ?_
    refine tpp 15 ?_
    refine tp 16 rfl (by exact y_arith ((lb d.keys key + 1 : Nat) : Int) rfl (wrapNadd (by omega))) ?_
    refine va_ready [9] (by kernel_rfl) rfl ?_
    refine vo_cons rfl (fun hC0 => ?_) ?_
    · skip
      refine vc_callv ca_190 (us := []) (vs := []) rfl [_, _, _] rfl [0] rfl (delS_spec (i := lb d.keys key) (j := lb d.keys key + 1) (by omega) (by omega) (by omega)) rfl ?_
      rintro _ _ ⟨h36, rfl, rfl⟩
      refine vc_nil ?_
      refine vc_then ?_
      refine va_kept hC0 [4] rfl ?_
      clear hC0
      refine va_ready [17] (by kernel_rfl) rfl ?_
      refine vo_cons rfl (fun hC0 => ?_) ?_
      · skip
        refine vc_callv ca_191 (us := []) (vs := []) rfl [_, _, _] rfl [1] rfl (delI_spec (i := lb d.keys key) (j := lb d.keys key + 1) (by omega) (by omega) (by omega)) rfl ?_
        rintro _ _ ⟨h44, rfl, rfl⟩
        refine vc_nil ?_
        refine vc_then ?_
        refine va_kept hC0 [4] rfl ?_
        clear hC0
        refine tpp 18 ?_
        refine tp 19 rfl (by exact y_fieldE fl_231_0 0 rfl rfl) ?_
        refine va_ready [20] (by kernel_rfl) rfl ?_
        refine vo_cons rfl (fun hC0 => ?_) ?_
        · skip
          refine vc_storeE 4 rfl [_] ⟨h36, h.n, h.c⟩ rfl rfl rfl sz_136 rfl hh (Nat.le_of_ble_eq_true rfl) rfl ?_
          refine vc_nil ?_
          refine vc_then ?_
          refine va_gone hC0 (by kernel_rfl) ?_
          clear hC0
          refine va_ready [21] (by kernel_rfl) rfl ?_
          refine vo_cons rfl (fun hC0 => ?_) ?_
          · skip
            refine vp ?_
            refine vc_nil ?_
            refine vc_then ?_
            refine va_gone hC0 (by kernel_rfl) ?_
            clear hC0
            refine va_ready [22] (by kernel_rfl) rfl ?_
            refine vo_cons rfl (fun hC0 => ?_) ?_
            · skip
              refine vc_y (y_fieldE fl_231_1 1 rfl rfl) rfl ?_
              refine vc_nil ?_
              refine vc_then ?_
              refine va_gone hC0 (by kernel_rfl) ?_
              clear hC0
              refine va_ready [23] (by kernel_rfl) rfl ?_
              refine vo_cons rfl (fun hC0 => ?_) ?_
              · skip
                refine vc_storeE 4 rfl [_] ⟨h36, h44, h.c⟩ rfl rfl rfl sz_72 rfl (List.getElem?_set_self (getLt hh)) (Nat.le_of_ble_eq_true rfl) rfl ?_
                refine vc_nil ?_
                refine vc_then ?_
                refine va_gone hC0 (by kernel_rfl) ?_
                clear hC0
                refine va_done (by kernel_rfl) ?_
                refine vc_then ?_
                refine vc_ret ?_
                refine vc_thenRet ?_
                exact vc_end0 Tryz.results161  _ (ent_at [5, 4, 4, 1, 0, 0, 0] rfl (ent_cons (ent_cons (ent_cons (ent_closeN ⟨h36, h44, h.c⟩ (delL d key) (List.getElem?_set_self (by rw [List.length_set]; exact getLt hh)) (List.getElem?_set_self (getLt hd)) List.length_set (fun j hj => by rw [List.getElem?_set_ne (Ne.symm hj), List.getElem?_set_ne (Ne.symm hj)]) (fun j hj => by rw [List.getElem?_set_ne (Ne.symm hj)])))))) ⟨hf, _, by simp [hlen], rfl, rfl⟩
              exact vo_nil
            exact vo_nil
          exact vo_nil
        exact vo_nil
      exact vo_nil
    exact vo_nil
  · skip
    have hk0 : d.kids ≠ [] := by simpa using c17
    obtain ⟨c, dc, l1, fr1, hc, hpc, hd1, hdc, hgc1, hfb, hcase⟩ := (hcase.resolve_left (fun h0 => hk0 h0.1)).2
    refine vc_skip ?_
    refine vc_then ?_
    refine vc_seq ?_
    refine vc_region ?_
    refine vp ?_
    refine vp ?_
    refine vc_callv ca_169 (us := []) (vs := []) rfl [_, _] rfl [0, 2] rfl ((way_spec (d := d) (k := h.k) (A := seps [Sl eNode hl hs, Nodes hs l]) (Vis.at 0 rfl (Rd.vis1 Sl.vis hh rfl)) (Vis.at 1 rfl (Nodes.visK hh hd)) hgr (by omega) key).many) rfl ?_
    rintro _ _ ⟨rfl, rfl⟩
    refine vp ?_
    refine vc_nil ?_
    refine vc_then ?_
    refine vc_seq ?_
    refine vc_region ?_
    iterate 3 refine vp ?_
    refine vc_y (y_fieldE fl_231_2 2 rfl rfl) rfl ?_
    refine vc_y (y_load1 0 rfl one_72 rfl (Rd.vis1 (Sl.vis) hh rfl)) rfl ?_
    refine vp ?_
    refine vc_y (y_elem 1 rfl (Nodes.visC hh hd) (wayN d key) rfl (getLt hc) sl_72 rfl rfl) rfl ?_
    refine vc_y (y_load1 1 rfl one_3 rfl (Rd.vis1 (Nodes.visC hh hd) hc rfl)) rfl ?_
    refine vp ?_
    refine vc_callv ca_161 (us := []) (vs := []) rfl [_, _, _] rfl [2, 0, 1, 0] rfl (ih c l1 fr1 hpc) rfl ?_
    rintro _ _ ⟨hf1, hs1, ln1, rfl, rfl⟩
    obtain ⟨hc1, hhc1⟩ := getSome ln1 hdc
    obtain ⟨h1, hh1⟩ := getSome ln1 hd1
    refine vc_see 3 rfl ((Nodes.visK hhc1 hdc).imp fun w r => r.len) (fun ek1 => ?_)
    refine vc_see 3 rfl ((Nodes.visN hhc1 hdc).imp fun w r => r.len) (fun en1 => ?_)
    refine vc_see 3 rfl ((Nodes.visC hhc1 hdc).imp fun w r => r.len) (fun ec1 => ?_)
    refine vc_nil ?_
    refine vc_then ?_
    refine vc_seq ?_
    refine vc_draw (by kernel_rfl) _ none [0, 0, 0, 0] rfl ?_
    refine tpp 0 ?_
    refine tpp 1 ?_
    refine tp 2 rfl (by exact y_fieldP fl_204_0 0 rfl rfl) ?_
    refine tk 3 rfl (by exact y_load1 0 rfl one_202 rfl (Pts.vis rfl)) ?_
    refine tpp 4 ?_
    refine tpp 5 ?_
    refine tp 6 rfl (by exact y_fieldE fl_231_2 2 rfl rfl) ?_
    refine tk 7 rfl (by exact y_load1 1 rfl one_72 rfl (Rd.vis1 (Sl.vis) hh1 rfl)) ?_
    refine tpp 8 ?_
    refine tk 9 rfl (by exact y_elem 3 rfl (Nodes.visC hh1 hd1) (wayN d key) rfl (getLt hc) sl_72 rfl rfl) ?_
    refine tk 10 rfl (by exact y_load1 3 rfl one_3 rfl (Rd.vis1 (Nodes.visC hh1 hd1) hc rfl)) ?_
    refine tk 11 rfl (by exact y_elem 1 rfl (Sl.vis) c rfl (getLt hhc1) sl_202 rfl rfl) ?_
    refine va_ready [12] (by kernel_rfl) rfl ?_
    refine vo_cons rfl (fun hC0 => ?_) ?_
    · skip
      refine vc_callv ca_166 (us := []) (vs := []) rfl [_] rfl [1] rfl (size_specD (h := hc1) (d := dc) (Rd.vis1 Sl.vis hhc1 rfl) (Rd.vis1 Sl.vis hhc1 rfl) ek1 ec1) rfl ?_
      rintro _ _ ⟨rfl, rfl⟩
      refine vc_nil ?_
      refine vc_then ?_
      refine va_kept hC0 [1, 0, 0, 0] rfl ?_
      clear hC0
      refine tpp 13 ?_
      refine va_done (by kernel_rfl) ?_
      refine vc_then ?_
      first | refine vc_condP rfl (fun c75 => ?_) (fun c75 => ?_) | refine vc_condN rfl (fun c75 => ?_) (fun c75 => ?_) | refine vc_cond rfl (fun c75 => ?_) (fun c75 => ?_)
      · skip
        have hM := (hcase.resolve_left (fun h0 => by omega)).2
        refine vc_region ?_
        iterate 3 refine vp ?_
        refine vc_y (y_max2 ((max (wayN d key) 1 : Nat) : Int) rfl rfl (by split <;> omega)) rfl ?_
        refine vc_callv ca_192 (us := []) (vs := []) rfl [_, _, _] rfl [1, 0, 0, 0] rfl (mend_spec ln1 hM hfb) rfl ?_
        rintro _ _ ⟨hf2, hs2, ln2, rfl, rfl⟩
        refine vc_nil ?_
        exact vc_end0n Tryz.results161 _ (ent_pick [0, 0, 0, 0] rfl) ⟨hf2, hs2, ln2, rfl, rfl⟩
      · skip
        obtain ⟨_, rfl, rfl⟩ := hcase.resolve_right (fun h0 => by omega)
        refine vc_skip ?_
        exact vc_end0n Tryz.results161 _ (ent_pick [1, 0, 0, 0] rfl) ⟨hf1, hs1, ln1, rfl, rfl⟩
    exact vo_nil
theorem del_spec {b : Nat} {l : List Nd} {fr : List Nat} {r : Option Nat} {m : Int} {hl hf : SH} {hs : List Nd3} (hlen : hs.length = l.length) (key : ByteArray) : ∀ (f i : Nat) (l' : List Nd) (fr' : List Nat), DelR key f l fr i l' fr' → Does Tryz.prog 161 [.pointer (some ⟨b, 0, none⟩), .int .i64 (i : Int), .string key] (TO b ⟨l, fr, r, m⟩ hl hf hs) (fun v l2 => ∃ hf' hs', hs'.length = l'.length ∧ v = .tuple #[] ∧ l2 = TO b ⟨l', fr', r, m⟩ hl hf' hs')
  | 0, _, _, _, h => by obtain ⟨_, _, h0, _⟩ := h.inv; omega
  | f + 1, i, l', fr', h => del_step hlen key h (fun c l1 fr1 h1 => del_spec hlen key f c l1 fr1 h1)
end Go.Proofs.YtcpbibdbahfgaaaGreat
