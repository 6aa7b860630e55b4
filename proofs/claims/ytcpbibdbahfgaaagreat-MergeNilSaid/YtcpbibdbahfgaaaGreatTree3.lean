/-
 The walks of the tree's functions that make and drop nodes.
-/
import Derived.Test.YtcpbibdbahfgaaaGreatTreeQ
set_option linter.unusedVariables false
set_option linter.unusedSimpArgs false
set_option autoImplicit false
namespace Go.Proofs.YtcpbibdbahfgaaaGreat
open Go.Eng
namespace FTree3
theorem ze_204 : (Tryz.prog.info? 204).map (·.zero) = some (some (.agg #[.slice none 0 0, .slice none 0 0, .int .i64 0, .int .i64 0])) := by kernel_rfl
theorem bu_204_2 (v2 : Value) (h2 : v2.cells = #[v2]) (w : World) : (Instr.build 204 #[(2, v2)]).run Tryz.prog w = .ok (.agg #[.slice none 0 0, .slice none 0 0, v2, .int .i64 0]) w := by
 have hz := @ze_204
 exact Go.Eng.run_build (pl := [(0, 1), (1, 1), (2, 1), (3, 1)]) hz Tryz.underlying204 (by kernel_rfl) rfl (by simp [Instr.fill, h2, cells_agg]) w
theorem fl_204_0 : Fld Tryz.prog 204 0 0 := ⟨_, _, 0, Tryz.underlying204, rfl, rfl, by kernel_rfl⟩
theorem one_202 : TyOne Tryz.prog 202 := ⟨⟨_, Tryz.underlying202, rfl⟩, by kernel_rfl⟩
theorem ze_231 : (Tryz.prog.info? 231).map (·.zero) = some (some (.agg #[.slice none 0 0, .slice none 0 0, .slice none 0 0])) := by kernel_rfl
theorem bu_231_n   (w : World) : (Instr.build 231 #[]).run Tryz.prog w = .ok (.agg #[.slice none 0 0, .slice none 0 0, .slice none 0 0]) w := by
 have hz := @ze_231
 exact Go.Eng.run_build (pl := [(0, 1), (1, 1), (2, 1)]) hz Tryz.underlying231 (by kernel_rfl) rfl (by simp [Instr.fill, cells_agg]) w
theorem sl_202 : TySl Tryz.prog 202 231 3 := ⟨Tryz.underlying202, by kernel_rfl⟩
theorem sz_231 : (Tryz.prog.info? 231).map (·.size) = some 3 := by kernel_rfl
theorem fl_204_1 : Fld Tryz.prog 204 1 1 := ⟨_, _, 0, Tryz.underlying204, rfl, rfl, by kernel_rfl⟩
theorem one_72 : TyOne Tryz.prog 72 := ⟨⟨_, Tryz.underlying72, rfl⟩, by kernel_rfl⟩
theorem sz_3 : (Tryz.prog.info? 3).map (·.size) = some 1 := by kernel_rfl
theorem ze_3 : (Tryz.prog.info? 3).map (·.zero) = some (some (.int .i64 0)) := by kernel_rfl
theorem bs_72_1 (v0 : Value) (h0 : v0.cells = #[v0]) (w : World) : (Instr.buildSlice 72 1 #[(0, v0)]).run Tryz.prog w = .ok (.slice (some ⟨w.heap.size, 0, none⟩) 1 1) { w with heap := w.heap.push (.cells #[v0] 3 (0, 0)) } :=
 Go.Eng.run_buildSlice Tryz.underlying72 sz_3 ze_3 (by decide) (by rw [show Array.range (1 * 1) = #[0] from by decide]; simp [Instr.fill, cells_agg, h0]) w
theorem el_72_eNat : TyEl Tryz.prog 72 eNat 8 := ⟨Tryz.underlying72, .int .i64 0, by kernel_rfl, rfl⟩
theorem sz_72 : (Tryz.prog.info? 72).map (·.size) = some 1 := by kernel_rfl
theorem sl_72 : TySl Tryz.prog 72 3 1 := ⟨Tryz.underlying72, by kernel_rfl⟩
theorem one_3 : TyOne Tryz.prog 3 := ⟨⟨_, Tryz.underlying3, rfl⟩, by kernel_rfl⟩
theorem ag_231 : TyAgg Tryz.prog 231 3 := ⟨⟨_, Tryz.underlying231, rfl⟩, by kernel_rfl⟩
theorem bs_202_1 (v0_0 v0_1 v0_2 : Value)  (w : World) : (Instr.buildSlice 202 1 #[(0, .agg #[v0_0, v0_1, v0_2])]).run Tryz.prog w = .ok (.slice (some ⟨w.heap.size, 0, none⟩) 1 1) { w with heap := w.heap.push (.cells #[v0_0, v0_1, v0_2] 231 (0, 0)) } :=
 Go.Eng.run_buildSlice Tryz.underlying202 sz_231 ze_231 (by decide) (by rw [show Array.range (1 * 3) = #[0, 1, 2] from by decide]; simp [Instr.fill, cells_agg]) w
theorem el_202_eNode : TyEl Tryz.prog 202 eNode 72 := ⟨Tryz.underlying202, .agg #[.slice none 0 0, .slice none 0 0, .slice none 0 0], by kernel_rfl, rfl⟩
theorem sz_202 : (Tryz.prog.info? 202).map (·.size) = some 1 := by kernel_rfl
end FTree3
open FTree3
theorem new_spec : Does Tryz.prog 115 [] [] (fun v l => ∃ b, v = .pointer (some ⟨b, 0, none⟩) ∧ l = TO b ⟨[], [], none, 0⟩ nilS nilS []) := by
 refine spec_of Tryz.func115 rfl Tryz.ntmps115 Tryz.results115 _ (by simp) fun ι F => ?_
 refine vc_seq ?_
 refine vc_region ?_
 refine vp ?_
 refine vc_nil ?_
 refine vc_then ?_
 refine vc_seq ?_
 refine vc_region ?_
 refine vc_y (y_build [(2, _)] [_, _, _, _] rfl (bu_204_2 _ rfl)) rfl ?_
 refine vc_box [_, _, _, _] rfl rfl rfl (fun b2 => ?_)
 refine vp ?_
 refine vc_nil ?_
 refine vc_then ?_
 refine vc_ret ?_
 exact vc_end1 Tryz.results115 rfl _ (show Ent _ (seps (TO b2 ⟨[], [], none, 0⟩ nilS nilS [])) from ent_cons (sl_new.trans (ent_cons (sl_new.trans (ent_cons Ent.empL))))) ⟨b2, rfl, rfl⟩
theorem drop_spec {b : Nat} {l : List Nd} {fr : List Nat} {r : Option Nat} {m : Int} {hl hf : SH} {hs : List Nd3} (hlen : hs.length = l.length) {i : Nat} (hi : i < l.length) (hb : fr.length ≤ 1000000) :
  Does Tryz.prog 162 [.pointer (some ⟨b, 0, none⟩), .int .i64 (i : Int)] (TO b ⟨l, fr, r, m⟩ hl hf hs) (fun v l2 => ∃ hf' hs', hs'.length = l.length ∧ (∀ j, j ≠ i → hs'[j]? = hs[j]?) ∧ v = .tuple #[] ∧ l2 = TO b ⟨l.set i nd0, fr ++ [i], r, m⟩ hl hf' hs') := by
 refine spec_of Tryz.func162 rfl Tryz.ntmps162 Tryz.results162 _ (by simp) fun ι F => ?_
 obtain ⟨h0, hh⟩ := getSome hlen (List.getElem?_eq_getElem hi)
 refine vc_seq ?_
 refine vc_region ?_
 refine vp ?_
 refine vp ?_
 refine vc_y (y_fieldP fl_204_0 0 rfl rfl) rfl ?_
 refine vc_y (y_load1 0 rfl one_202 rfl (Pts.vis rfl)) rfl ?_
 refine vp ?_
 refine vc_y (y_build [] [_, _, _] rfl (bu_231_n  )) rfl ?_
 refine vc_y (y_elem 1 rfl (Sl.vis) i rfl (by omega) sl_202 rfl rfl) rfl ?_
 refine vc_storeE 1 rfl [_, _, _] nil3 rfl rfl rfl sz_231 rfl hh (Nat.le_of_ble_eq_true rfl) rfl ?_
 refine vc_nil ?_
 refine vc_then ?_
 refine vc_region ?_
 iterate 3 refine vp ?_
 refine vc_y (y_fieldP fl_204_1 1 rfl rfl) rfl ?_
 refine vc_y (y_load1 0 rfl one_72 rfl (Pts.vis rfl)) rfl ?_
 refine vp ?_
 refine vc_buildSlice (E := eNat) [(0, _)] [i] rfl rfl (bs_72_1 _ rfl) rfl (fun h17 => ?_)
 refine vc_append 3 rfl 0 rfl (Sl.vis) el_72_eNat Tryz.underlying72 rfl rfl (by simp; omega) (by simp; omega) rfl (fun h18 => ?_)
 refine vp ?_
 refine vc_y (y_fieldP fl_204_1 1 rfl rfl) rfl ?_
 refine vc_storeP 1 rfl [_] [_, _, _, _] rfl rfl rfl sz_72 rfl rfl rfl ?_
 refine vc_nil ?_
 exact vc_end0n Tryz.results162 _ (ent_at [1, 1, 1, 1] rfl (ent_cons (ent_cons (ent_cons (ent_head (Ent.empL.trans ((Ent.sep NodeC.nil Ent.rfl).trans (Nodes.set hlen hi)))))))) ⟨h18, hs.set i nil3, by simp [hlen], fun j hj => by rw [List.getElem?_set_ne (Ne.symm hj)], rfl, rfl⟩
theorem add_spec {b : Nat} {l l' : List Nd} {fr fr' : List Nat} {r : Option Nat} {m : Int} {hl hf : SH} {hs : List Nd3} (hlen : hs.length = l.length) {h : Nd3} {d : Nd} {k : Nat} (hA : AddR l fr d k l' fr') :
  Does Tryz.prog 164 [.pointer (some ⟨b, 0, none⟩), .agg #[h.k.v, h.n.v, h.c.v]] (TO b ⟨l, fr, r, m⟩ hl hf hs ++ [Sl eStr h.k d.keys, Sl eInt h.n d.nums, Sl eNat h.c d.kids]) (fun v l2 => ∃ hl' hf' hs', hs'.length = l'.length ∧ hs'[k]? = some h ∧ (∀ j, j ≠ k → j < l.length → hs'[j]? = hs[j]?) ∧ v = .int .i64 (k : Int) ∧ l2 = TO b ⟨l', fr', r, m⟩ hl' hf' hs') := by
 refine spec_of Tryz.func164 rfl Tryz.ntmps164 Tryz.results164 _ (by simp) fun ι F => ?_
 refine vc_see 2 rfl (Sl.vis.imp fun w r => (⟨r.len, r.cap⟩ : hf.len = fr.length ∧ fr.length ≤ hf.cap)) (fun hfl => ?_)
 refine vc_see 1 rfl (Sl.vis.imp fun w r => r.len) (fun hll => ?_)
 refine vc_seq ?_
 refine vc_region ?_
 refine vc_box [_, _, _] rfl rfl rfl (fun b3 => ?_)
 refine vp ?_
 refine vc_nil ?_
 refine vc_then ?_
 refine vc_seq ?_
 refine vc_seq ?_
 refine vc_region ?_
 refine vp ?_
 refine vp ?_
 refine vc_y (y_fieldP fl_204_1 1 rfl rfl) rfl ?_
 refine vc_y (y_load1 1 rfl one_72 rfl (Pts.vis rfl)) rfl ?_
 refine vc_y (y_len Tryz.underlying72 rfl hfl.1) rfl ?_
 refine vp ?_
 refine vc_nil ?_
 refine vc_then ?_
 refine vc_seq ?_
 refine vc_region ?_
 refine vp ?_
 refine vp ?_
 refine vc_nil ?_
 refine vc_then ?_
 first | refine vc_condP rfl (fun c13 => ?_) (fun c13 => ?_) | refine vc_condN rfl (fun c13 => ?_) (fun c13 => ?_) | refine vc_cond rfl (fun c13 => ?_) (fun c13 => ?_)
 ·skip
  rcases hA with ⟨fr0, i, hf0, hi, hb⟩ | ⟨hf0, hb⟩
  rotate_left
  ·rw [hf0] at c13; simp at c13
  subst hf0
  obtain ⟨h0, hh⟩ := getSome hlen (List.getElem?_eq_getElem hi)
  rw [List.length_append, List.length_singleton] at hfl hb
  refine vc_seq ?_
  refine vc_region ?_
  refine vp ?_
  refine vp ?_
  refine vc_y (y_fieldP fl_204_1 1 rfl rfl) rfl ?_
  refine vc_y (y_load1 1 rfl one_72 rfl (Pts.vis rfl)) rfl ?_
  refine vp ?_
  refine vc_y (y_arith ((fr'.length : Nat) : Int) rfl (by rw [List.length_append, List.length_singleton]; exact wrapNsub (by omega))) rfl ?_
  refine vc_y (y_elem 3 rfl (Sl.vis) fr'.length rfl (by simp) sl_72 rfl rfl) rfl ?_
  refine vc_y (y_load1 3 rfl one_3 rfl (Rd.vis1 (Sl.vis) (show (fr' ++ [k])[fr'.length]? = some k by simp) rfl)) rfl ?_
  refine vp ?_
  refine vc_nil ?_
  refine vc_then ?_
  refine vc_seq ?_
  refine vc_region ?_
  iterate 3 refine vp ?_
  refine vc_y (y_fieldP fl_204_1 1 rfl rfl) rfl ?_
  refine vc_y (y_load1 1 rfl one_72 rfl (Pts.vis rfl)) rfl ?_
  refine vp ?_
  refine vc_y (y_arith ((fr'.length : Nat) : Int) rfl (by rw [List.length_append, List.length_singleton]; exact wrapNsub (by omega))) rfl ?_
  refine vc_y (y_slice sl_72 rfl 0 fr'.length hf.cap rfl ⟨_, _, rfl, rfl⟩ rfl (by simp) (by omega) (by omega) (by omega)) rfl ?_
  refine vp ?_
  refine vc_y (y_fieldP fl_204_1 1 rfl rfl) rfl ?_
  refine vc_storeP 1 rfl [_] [_, _, _, _] rfl rfl rfl sz_72 rfl rfl rfl ?_
  refine vc_nil ?_
  refine vc_then ?_
  refine vc_seq ?_
  refine vc_draw (by kernel_rfl) _ (some 7) [0, 0, 0] rfl ?_
  refine tpp 0 ?_
  refine tpp 1 ?_
  refine tp 2 rfl (by exact y_fieldP fl_204_0 0 rfl rfl) ?_
  refine tk 3 rfl (by exact y_load1 1 rfl one_202 rfl (Pts.vis rfl)) ?_
  refine tpp 4 ?_
  refine tk 5 rfl (by exact y_loadA 0 rfl (cs := [_, _, _]) ag_231 rfl (Pts.visA rfl)) ?_
  refine tk 6 rfl (by exact y_elem 2 rfl (Sl.vis) k rfl (by omega) sl_202 rfl rfl) ?_
  refine va_ready [7] (by kernel_rfl) rfl ?_
  refine vo_cons rfl (fun hC0 => ?_) ?_
  ·skip
   refine vc_storeE 2 rfl [_, _, _] h rfl rfl rfl sz_231 rfl hh (Nat.le_of_ble_eq_true rfl) rfl ?_
   refine vc_nil ?_
   refine vc_then ?_
   refine va_gone hC0 rfl ?_
   refine va_done (by kernel_rfl) ?_
   refine vc_then ?_
   refine vc_seq ?_
   refine vc_region ?_
   refine vp ?_
   refine vp ?_
   refine vc_nil ?_
   refine vc_then ?_
   refine vc_ret ?_
   refine vc_thenRet ?_
   exact vc_end1 Tryz.results164 rfl _ (ent_at [1, 1, 1, 2, 2, 2, 1] rfl (ent_cons (ent_cons ((ent_head (B := Sl eNat (hf.cut 1 0 fr'.length hf.cap) fr') (by have := Sl.cut (E := eNat) (h := hf) (xs := fr' ++ [k]) (lo := 0) (hi := fr'.length) (mx := hf.cap) (Nat.zero_le _) (by simp) (by omega) (Nat.le_refl _); rw [List.drop_zero, List.take_left] at this; exact this)).trans (ent_cons (ent_node.trans (Ent.sep (Nodes.set hlen hi) Ent.rfl))))))) ⟨hl, _, hs.set k h, by simp [hlen], by rw [List.getElem?_set_self (by omega)], fun j hj _ => by rw [List.getElem?_set_ne (Ne.symm hj)], rfl, rfl⟩
  exact vo_nil
 ·skip
  rcases hA with ⟨_, _, hf0, hi, hb⟩ | ⟨hf0, hb⟩
  ·rw [hf0] at c13; simp at c13
  subst hf0
  refine vc_skip ?_
  refine vc_then ?_
  refine vc_seq ?_
  refine vc_draw (by kernel_rfl) _ (some 10) [0, 0] rfl ?_
  refine tpp 0 ?_
  refine tpp 1 ?_
  refine tpp 2 ?_
  refine tp 3 rfl (by exact y_fieldP fl_204_0 0 rfl rfl) ?_
  refine tk 4 rfl (by exact y_load1 1 rfl one_202 rfl (Pts.vis rfl)) ?_
  refine tk 5 rfl (by exact y_loadA 0 rfl (cs := [_, _, _]) ag_231 rfl (Pts.visA rfl)) ?_
  refine va_ready [6] (by kernel_rfl) rfl ?_
  refine vo_cons rfl (fun hC0 => ?_) ?_
  ·skip
   refine vc_buildSlice (E := eNode) [(0, _)] [h] rfl rfl (bs_202_1 _ _ _ ) rfl (fun h46 => ?_)
   refine vc_nil ?_
   refine vc_then ?_
   refine va_kept hC0 [1, 1] rfl ?_
   refine va_ready [7] (by kernel_rfl) rfl ?_
   refine vo_cons rfl (fun hC0 => ?_) ?_
   ·skip
    refine vc_append 3 rfl 0 rfl (Sl.vis) el_202_eNode Tryz.underlying202 rfl rfl (by simp; omega) (by simp; omega) rfl (fun h47 => ?_)
    refine vc_nil ?_
    refine vc_then ?_
    refine va_kept hC0 [1, 1] rfl ?_
    refine tpp 8 ?_
    refine tp 9 rfl (by exact y_fieldP fl_204_0 0 rfl rfl) ?_
    refine va_ready [10] (by kernel_rfl) rfl ?_
    refine vo_cons rfl (fun hC0 => ?_) ?_
    ·skip
     refine vc_storeP 2 rfl [_] [_, _, _, _] rfl rfl rfl sz_202 rfl rfl rfl ?_
     refine vc_nil ?_
     refine vc_then ?_
     refine va_gone hC0 rfl ?_
     refine va_done (by kernel_rfl) ?_
     refine vc_then ?_
     refine vc_seq ?_
     refine vc_region ?_
     refine vc_see 3 rfl (Sl.vis.imp fun w r => r.len) (fun h47l => ?_)
     refine vp ?_
     refine vp ?_
     refine vc_y (y_fieldP fl_204_0 0 rfl rfl) rfl ?_
     refine vc_y (y_load1 2 rfl one_202 rfl (Pts.vis rfl)) rfl ?_
     refine vc_y (y_len Tryz.underlying202 rfl h47l) rfl ?_
     refine vc_y (y_arith ((l.length : Nat) : Int) rfl (by rw [List.length_append, List.length_singleton, hlen]; exact wrapNsub (by omega))) rfl ?_
     refine vp ?_
     refine vc_nil ?_
     refine vc_then ?_
     refine vc_ret ?_
     exact vc_end1 Tryz.results164 rfl _ (ent_at [2, 2, 2, 3, 3, 3, 2] rfl (ent_cons (ent_cons (ent_cons (ent_node.trans (Ent.sep (Nodes.push hlen) Ent.rfl)))))) ⟨h47, hf, hs ++ [h], by simp [hlen], by rw [List.getElem?_append_right (by omega)]; simp [hlen], fun j _ hj => by rw [List.getElem?_append_left (by omega)], rfl, rfl⟩
    exact vo_nil
   exact vo_nil
  exact vo_nil
end Go.Proofs.YtcpbibdbahfgaaaGreat
