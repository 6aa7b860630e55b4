/-
 A room: its keys, sweeps, entries.
-/
import Derived.Test.YtcpbibdbahfgaaaGreatSw9
import Derived.Test.YtcpbibdbahfgaaaGreatSw3
import Derived.Test.YtcpbibdbahfgaaaGreatSw2
import Derived.Laws.MakeOwn
set_option linter.unusedVariables false
set_option linter.unusedSimpArgs false
set_option autoImplicit false
set_option maxHeartbeats 4000000
namespace Go.Proofs.YtcpbibdbahfgaaaGreat
open Go.Eng
namespace FRoom4
theorem ca_138 : Callable Tryz.prog 138 := ⟨_, _, Tryz.func138, rfl, rfl⟩
theorem sz_9 : (Tryz.prog.info? 9).map (·.size) = some 1 := by kernel_rfl
theorem ze_9 : (Tryz.prog.info? 9).map (·.zero) = some (some (.string ⟨#[]⟩)) := by kernel_rfl
theorem bs_136_1 (v0 : Value) (h0 : v0.cells = #[v0]) (w : World) : (Instr.buildSlice 136 1 #[(0, v0)]).run Tryz.prog w = .ok (.slice (some ⟨w.heap.size, 0, none⟩) 1 1) { w with heap := w.heap.push (.cells #[v0] 9 (0, 0)) } :=
 Go.Eng.run_buildSlice Tryz.underlying136 sz_9 ze_9 (by decide) (by rw [show Array.range (1 * 1) = #[0] from by decide]; simp [Instr.fill, cells_agg, h0]) w
theorem el_136_eStr : TyEl Tryz.prog 136 eStr 16 := ⟨Tryz.underlying136, .string ⟨#[]⟩, by kernel_rfl, rfl⟩
theorem ca_82 : Callable Tryz.prog 82 := ⟨_, _, Tryz.func82, rfl, rfl⟩
theorem ep_28 : Tryz.prog.underlying 28 = some (.pointer (Tryz.prog.pointee 28)) := by kernel_rfl
theorem fl_132_2 : Fld Tryz.prog 132 2 5 := ⟨_, _, 0, Tryz.underlying132, rfl, rfl, by kernel_rfl⟩
theorem one_129 : TyOne Tryz.prog 129 := ⟨⟨_, Tryz.underlying129, rfl⟩, by kernel_rfl⟩
theorem ca_125 : Callable Tryz.prog 125 := ⟨_, _, Tryz.func125, rfl, rfl⟩
theorem ca_124 : Callable Tryz.prog 124 := ⟨_, _, Tryz.func124, rfl, rfl⟩
theorem ca_75 : Callable Tryz.prog 75 := ⟨_, _, Tryz.func75, rfl, rfl⟩
theorem sl_136 : TySl Tryz.prog 136 9 1 := ⟨Tryz.underlying136, by kernel_rfl⟩
theorem one_9 : TyOne Tryz.prog 9 := ⟨⟨_, Tryz.underlying9, rfl⟩, by kernel_rfl⟩
theorem ca_76 : Callable Tryz.prog 76 := ⟨_, _, Tryz.func76, rfl, rfl⟩
theorem ca_18 : Callable Tryz.prog 18 := ⟨_, _, Tryz.func18, rfl, rfl⟩
theorem ca_77 : Callable Tryz.prog 77 := ⟨_, _, Tryz.func77, rfl, rfl⟩
theorem ca_79 : Callable Tryz.prog 79 := ⟨_, _, Tryz.func79, rfl, rfl⟩
theorem ca_78 : Callable Tryz.prog 78 := ⟨_, _, Tryz.func78, rfl, rfl⟩
end FRoom4
open FRoom4
theorem sLt_nil (a : ByteArray) : sLt a ⟨#[]⟩ = false := by
 cases h : sLt a ⟨#[]⟩ with
 | false => rfl
 | true =>
  exfalso
  unfold sLt at h
  have e : (⟨#[]⟩ : ByteArray).toList = [] := by rw [ba_toList]
  rw [e] at h
  cases a.toList <;> simp [Op.bytesLess] at h
theorem lb_nil (l : List ByteArray) : lb l ⟨#[]⟩ = 0 := by
 cases l with
 | nil => rfl
 | cons a l => simp [lb, sLt_nil]
theorem nxt_first (m : Con) : nxt m ⟨#[]⟩ false = m[0]? := by unfold nxt; rw [lb_nil]; simp
theorem nxt_at {m : Con} (hr : Rise (ks m)) {j : Nat} {q : ByteArray × Int} (h : m[j]? = some q) : nxt m q.1 true = m[j + 1]? := by
 obtain ⟨h1, h2⟩ := lb_at hr (p := j) (k := q.1) (by unfold ks; rw [List.getElem?_map, h]; rfl)
 unfold nxt
 rw [h1, h2]; simp
theorem ks_take {m : Con} {i : Nat} {q : ByteArray × Int} (h : m[i]? = some q) : ks (m.take i) ++ [q.1] = ks (m.take (i + 1)) := by
 rw [List.take_succ_eq_append_getElem (getLt h), ks_append]
 have : m[i]'(getLt h) = q := by rw [List.getElem?_eq_getElem (getLt h)] at h; exact Option.some.inj h
 rw [this]; rfl
def swI (X : RmX) (i : Nat) : RmX := ⟨X.label, X.ring, X.quota, X.most, X.R, sweepM (X.M.take i) X.R.floor ++ X.M.drop i⟩
theorem swI_ok {X : RmX} (ok : X.ok) (i : Nat) : (swI X i).ok := by
 have h := ok.sweep
 refine ⟨ok.lab, ok.r1, ok.q, ok.mo, ok.rg, ok.rs, ok.sm, ok.bg, fun p hp => ?_, ?_, ?_⟩
 ·rcases List.mem_append.1 hp with hp | hp
  ·refine h.ps p ?_
   obtain ⟨q, hq, e⟩ := List.mem_filterMap.1 hp
   exact List.mem_filterMap.2 ⟨q, List.mem_of_mem_take hq, e⟩
  ·exact ok.ps p (List.mem_of_mem_drop hp)
 ·refine rise_subl ?_ ok.rise
  conv => rhs; rw [← List.take_append_drop i X.M]
  simp only [swI, ks_append]
  exact (sweep_ks _ _).append (List.Sublist.refl _)
 ·have h1 := ok.le
  have h2 := List.length_filterMap_le (sw1 X.R.floor) (X.M.take i)
  simp only [swI, sweepM, List.length_append, List.length_drop, List.length_take] at h2 ⊢
  omega
theorem swI_chain {X : RmX} {i : Nat} (ok : X.ok) (hi : i < X.M.length) : chainM (swI X i).M X.M[i].1 = X.M[i].2 :=
 chain_mem (swI_ok ok i).rise (List.mem_append_right _ (by rw [List.drop_eq_getElem_cons hi]; exact List.mem_cons_self))
theorem swI_lb {X : RmX} {i : Nat} (ok : X.ok) (hi : i < X.M.length) : lb (ks (swI X i).M) X.M[i].1 = (sweepM (X.M.take i) X.R.floor).length ∧ fnd (ks (swI X i).M) X.M[i].1 = true := by
 refine lb_at (swI_ok ok i).rise ?_
 simp only [swI, ks_append]
 rw [List.getElem?_append_right (by simp [ks]), List.drop_eq_getElem_cons hi]
 simp only [ks, List.length_map, Nat.sub_self, List.map_cons, List.getElem?_cons_zero]
theorem swI_succ {X : RmX} {i : Nat} (hi : i < X.M.length) : (swI X (i + 1)).M = sweepM (X.M.take i) X.R.floor ++ (match sw1 X.R.floor X.M[i] with | some q => [q] | none => []) ++ X.M.drop (i + 1) := by
 simp only [swI]
 rw [List.take_succ_eq_append_getElem hi, sweep_snoc]; rfl
theorem swI_none {X : RmX} {i : Nat} (ok : X.ok) (hi : i < X.M.length) (h : verOld X.M[i].2 X.R.floor = 0) : swI X (i + 1) = swI X i := by
 have hp := ok.ps _ (List.getElem_mem hi)
 have e : verSweep X.M[i].2 X.R.floor = X.M[i].2 := by unfold verSweep; rw [if_pos hp.c, h]; rfl
 have e2 : sw1 X.R.floor X.M[i] = some X.M[i] := by unfold sw1; rw [e, if_neg (by simpa using hp.ne)]
 have := swI_succ hi
 rw [e2] at this
 simp only [swI] at this ⊢
 rw [this, List.drop_eq_getElem_cons hi]
 simp
theorem swI_put {X : RmX} {i : Nat} (ok : X.ok) (hi : i < X.M.length) (h : verSweep X.M[i].2 X.R.floor ≠ []) : put1 (swI X i).M X.M[i].1 (verSweep X.M[i].2 X.R.floor) = (swI X (i + 1)).M := by
 have e2 : sw1 X.R.floor X.M[i] = some (X.M[i].1, verSweep X.M[i].2 X.R.floor) := by unfold sw1; rw [if_neg (by simpa using h)]
 rw [swI_succ hi, e2]
 unfold put1
 rw [(swI_lb ok hi).1]
 simp only [swI]
 rw [List.set_append_right _ _ (Nat.le_refl _), Nat.sub_self, List.drop_eq_getElem_cons hi, List.set_cons_zero, List.append_assoc, List.singleton_append]
theorem swI_dlt {X : RmX} {i : Nat} (ok : X.ok) (hi : i < X.M.length) (h : verSweep X.M[i].2 X.R.floor = []) : dlt (swI X i).M X.M[i].1 = (swI X (i + 1)).M := by
 have e2 : sw1 X.R.floor X.M[i] = none := by unfold sw1; rw [if_pos (by rw [h]; rfl)]
 rw [swI_succ hi, e2]
 unfold dlt
 rw [(swI_lb ok hi).1]
 simp only [swI]
 rw [List.take_left' rfl, List.drop_append, List.drop_eq_getElem_cons hi]
 simp
theorem sw_count {X : RmX} {i : Nat} (ok : X.ok) (hi : i < X.M.length) : versM (X.M.take (i + 1)) - versM (sweepM (X.M.take (i + 1)) X.R.floor) = versM (X.M.take i) - versM (sweepM (X.M.take i) X.R.floor) + (verOld X.M[i].2 X.R.floor : Int) := by
 have hp := ok.ps _ (List.getElem_mem hi)
 have hlo := verOld_le X.M[i].2 X.R.floor
 have e : (verSweep X.M[i].2 X.R.floor).length = X.M[i].2.length - verOld X.M[i].2 X.R.floor := by unfold verSweep; rw [if_pos hp.c, List.length_drop]
 rw [List.take_succ_eq_append_getElem hi, sweep_snoc]
 unfold versM
 rw [sumM_append, sumM_append]
 unfold sw1
 by_cases h : (verSweep X.M[i].2 X.R.floor).isEmpty = true
 ·rw [if_pos h]
  rw [List.isEmpty_iff] at h
  rw [h] at e
  simp only [sumM, List.length_nil] at e ⊢
  omega
 ·rw [if_neg h]
  simp only [sumM]
  omega
theorem lay_any {b : Nat} {X : RmX} {I : RmI} (rel : RmRel X I) (ok : X.ok) {key : ByteArray} (hk : key.size ≤ 32) {h : SH} {xs : List Ver} (hxb : xs.length ≤ 1000000) (hfk : fnd (ks X.M) key = true) :
  Does Tryz.prog 78 [.pointer (some ⟨b, 0, none⟩), .string key, h.v] (RmO b X I ++ [RoSl eVer h xs]) (fun v l => v = .tuple #[] ∧ l = [RoomC b ⟨X.label, X.ring, X.quota, X.most, X.R, if xs = [] then dlt X.M key else Eng.put1 X.M key xs⟩]) := by
 by_cases hn : xs = []
 ·have := lay_del (b := b) rel ok hk (h := h) hxb hfk hn
  rwa [if_pos hn]
 ·have := lay_put (b := b) rel ok hk (h := h) hxb hfk hn
  rwa [if_neg hn]
theorem tree_keys {b : Nat} {m : Con} (hr : Rise (ks m)) (hm : m.length ≤ 200000) : Does Tryz.prog 124 [.pointer (some ⟨b, 0, none⟩), .string ⟨#[]⟩, .int .i64 (m.length : Int)] [TreeC b m] (fun v l => ∃ h', v = h'.v ∧ l = [TreeC b m, Sl eStr h' (ks m)]) := by
 refine spec_of Tryz.func124 rfl Tryz.ntmps124 Tryz.results124 _ (by simp) fun ι F => ?_
 refine vc_seq ?_
 refine vc_region ?_
 refine vp ?_
 refine vc_nil ?_
 refine vc_then ?_
 refine vc_seq ?_
 refine vc_region ?_
 refine vp ?_
 refine vc_nil ?_
 refine vc_then ?_
 refine vc_seq ?_
 refine vc_region ?_
 refine vc_ent (l' := Sl eStr nilS [] :: _) sl_new ?_
 refine vp ?_
 refine vp ?_
 refine vc_callv ca_138 (us := []) (vs := []) rfl [_, _] rfl [1] rfl (Does.re (tree_seek ⟨#[]⟩) (show _ = resV m[0]? by rw [nxt_first])) rfl ?_
 rintro _ _ ⟨rfl, rfl⟩
 iterate 7 refine vp ?_
 refine vc_nil ?_
 refine vc_then ?_
 refine vc_seq ?_
 refine vc_block ?_
 refine vc_loop (α := Nat × SH) (fun xq_ => match xq_ with | (i, hh) => [(0, .pointer (some ⟨b, 0, none⟩)), (2, .int .i64 (m.length : Int)), (7, hh.v), (8, .string (resK m[i]?)), (10, .bool (resB m[i]?))]) (fun xq_ => match xq_ with | (i, hh) => [TreeC b m, Sl eStr hh (ks (m.take i))]) (fun xq_ => match xq_ with | (i, hh) => m.length - i) (fun xq_ => match xq_ with | (i, hh) => i ≤ m.length) (0, nilS) (Nat.zero_le _) ⟨rfl, rfl, rfl, rfl, rfl, trivial⟩ (ent_pick [0, 0] rfl) ?_
 rintro ⟨i, hh⟩ hi
 show VC _ _ _ _ [(0, .pointer (some ⟨b, 0, none⟩)), (2, .int .i64 (m.length : Int)), (7, hh.v), (8, .string (resK m[i]?)), (10, .bool (resB m[i]?))] ([TreeC b m, Sl eStr hh (ks (m.take i))])
 refine vc_seq ?_
 refine vc_seq ?_
 refine vc_region ?_
 have hkl : (ks (m.take i)).length = i := by simp [ks]; omega
 refine vc_see 1 rfl (Sl.vis.imp fun w r => r.len) (fun hlh => ?_)
 refine vp ?_
 refine vp ?_
 first | refine vc_splitP 19 rfl (fun c19 => ?_) (fun c19 => ?_) | refine vc_splitN 19 rfl (fun c19 => ?_) (fun c19 => ?_) | refine vc_split 19 rfl (fun c19 => ?_) (fun c19 => ?_)
 ·skip
  obtain ⟨q, hq⟩ : ∃ q, m[i]? = some q := by
   cases h0 : m[i]? with
   | none => rw [h0] at c19; cases c19
   | some q => exact ⟨q, rfl⟩
  have hi2 := getLt hq
  rw [hq]
  refine vc_guardT 19 rfl rfl ?_
  refine vp ?_
  refine vc_guardT 19 rfl rfl ?_
  refine vc_y (y_len Tryz.underlying136 rfl (by first | assumption | rfl)) rfl ?_
  refine vc_guardT 19 rfl rfl ?_
  refine vp ?_
  refine vc_guardT 19 rfl rfl ?_
  refine vp ?_
  refine vp ?_
  refine vc_nil ?_
  refine vc_then ?_
  first | refine vc_condP rfl (fun c24 => ?_) (fun c24 => ?_) | refine vc_condN rfl (fun c24 => ?_) (fun c24 => ?_) | refine vc_cond rfl (fun c24 => ?_) (fun c24 => ?_)
  ·skip
   refine vc_skip ?_
   refine vc_then ?_
   refine vc_block ?_
   refine vc_seq ?_
   refine vc_region ?_
   refine vp ?_
   refine vp ?_
   refine vc_buildSlice (E := eStr) [(0, _)] [q.1] rfl rfl (bs_136_1 _ rfl) rfl (fun h27 => ?_)
   refine vc_append 2 rfl 0 rfl (Sl.vis) el_136_eStr Tryz.underlying136 rfl rfl (by simp [ks]; omega) (by simp [ks]; omega) rfl (fun h28 => ?_)
   refine vc_re 2 rfl (congrArg (Sl eStr h28) (ks_take hq)) ?_
   refine vp ?_
   refine vc_nil ?_
   refine vc_then ?_
   refine vc_region ?_
   refine vp ?_
   refine vp ?_
   refine vc_callv ca_82 (us := []) (vs := []) rfl [_, _] rfl [1] rfl (Does.re (tree_after q.1) (show _ = resV m[i + 1]? by rw [nxt_at hr hq])) rfl ?_
   rintro _ _ ⟨rfl, rfl⟩
   iterate 6 refine vp ?_
   refine vc_nil ?_
   refine vc_inNormal ?_
   refine vc_then ?_
   exact vc_again (x := (i, hh)) (i + 1, h28) hi2 (by show m.length - (i + 1) < m.length - i; omega) ⟨rfl, rfl, rfl, rfl, rfl, trivial⟩ (ent_pick [0, 1] rfl)
  ·skip
   exact absurd c24 (by rw [hkl]; omega)
 ·skip
  have hq : m[i]? = none := by
   cases h0 : m[i]? with
   | none => rfl
   | some q => rw [h0] at c19; cases c19
  have hnl : ¬ i < m.length := fun h0 => by rw [List.getElem?_eq_getElem h0] at hq; cases hq
  obtain rfl : i = m.length := by omega
  rw [List.take_length]
  refine vc_guardF 19 rfl rfl rfl rfl ?_
  refine vc_guardF 19 rfl rfl rfl rfl ?_
  refine vc_guardF 19 rfl rfl rfl rfl ?_
  refine vc_guardF 19 rfl rfl rfl rfl ?_
  refine vp ?_
  refine vc_nil ?_
  refine vc_then ?_
  refine vc_condF rfl ?_
  refine vc_exit ?_
  refine vc_thenExit ?_
  refine vc_thenExit ?_
  refine vc_inExit ?_
  refine vc_then ?_
  refine vc_seq ?_
  refine vc_region ?_
  refine vp ?_
  refine vp ?_
  refine vc_nil ?_
  refine vc_then ?_
  refine vc_ret ?_
  exact vc_end1 Tryz.results124 rfl _ (ent_pick [0, 0] rfl) ⟨hh, rfl, rfl⟩
theorem rall0 {b : Nat} {X : RmX} {I : RmI} (rel : RmRel X I) (ok : X.ok) : Does Tryz.prog 75 [.pointer (some ⟨b, 0, none⟩)] (RmO b X I) (fun v l => ∃ h', v = h'.v ∧ l = RmO b X I ++ [Sl eStr h' (ks X.M)]) := by
 refine spec_of Tryz.func75 rfl Tryz.ntmps75 Tryz.results75 _ (by simp) fun ι F => ?_
 have hrt : Rise (ks I.t) := by rw [← rel.ks]; exact ok.rise
 have hlt : I.t.length ≤ 200000 := by have := ok.le; rw [rel.m, List.length_map] at this; omega
 refine vc_seq ?_
 refine vc_region ?_
 refine vp ?_
 refine vc_nil ?_
 refine vc_then ?_
 refine vc_seq ?_
 refine vc_seq ?_
 refine vc_region ?_
 refine vp ?_
 refine vc_y (y_eqNil ep_28 rfl rfl) rfl ?_
 refine vc_nil ?_
 refine vc_then ?_
 refine vc_condF rfl ?_
 refine vc_skip ?_
 refine vc_then ?_
 refine vc_seq ?_
 refine vc_draw (by kernel_rfl) _ none [0] rfl ?_
 refine tpp 0 ?_
 refine tpp 1 ?_
 refine tp 2 rfl (by exact y_fieldP fl_132_2 5 rfl rfl) ?_
 refine tk 3 rfl (by exact y_load1 0 rfl one_129 rfl (Pts.vis rfl)) ?_
 refine tpp 4 ?_
 refine tpp 5 ?_
 refine tp 6 rfl (by exact y_fieldP fl_132_2 5 rfl rfl) ?_
 refine tk 7 rfl (by exact y_load1 0 rfl one_129 rfl (Pts.vis rfl)) ?_
 refine va_ready [8] (by kernel_rfl) rfl ?_
 refine vo_cons rfl (fun hC0 => ?_) ?_
 ·skip
  refine vc_callv ca_125 (us := []) (vs := []) rfl [_] rfl [3] rfl (tree_len) rfl ?_
  rintro _ _ ⟨rfl, rfl⟩
  refine vc_nil ?_
  refine vc_then ?_
  refine va_kept hC0 [1] rfl ?_
  clear hC0
  refine va_ready [9] (by kernel_rfl) rfl ?_
  refine vo_cons rfl (fun hC0 => ?_) ?_
  ·skip
   refine vc_callv ca_124 (us := []) (vs := []) rfl [_, _, _] rfl [0] rfl (tree_keys hrt hlt) rfl ?_
   rintro _ _ ⟨g, rfl, rfl⟩
   refine vc_nil ?_
   refine vc_then ?_
   refine va_kept hC0 [2] rfl ?_
   clear hC0
   refine tpp 10 ?_
   refine va_done (by kernel_rfl) ?_
   refine vc_then ?_
   refine vc_ret ?_
   exact vc_end1 Tryz.results75 rfl _ (ent_pick [2, 2, 2, 0, 1, 1, 1, 0] rfl) ⟨g, rfl, by rw [rel.ks]; rfl⟩
  exact vo_nil
 exact vo_nil
theorem swI_step {X : RmX} {i : Nat} (ok : X.ok) (hi : i < X.M.length) : (⟨X.label, X.ring, X.quota, X.most, X.R, if verSweep X.M[i].2 X.R.floor = [] then dlt (swI X i).M X.M[i].1 else Eng.put1 (swI X i).M X.M[i].1 (verSweep X.M[i].2 X.R.floor)⟩ : RmX) = swI X (i + 1) := by
 by_cases h : verSweep X.M[i].2 X.R.floor = []
 ·rw [if_pos h, swI_dlt ok hi h]; rfl
 ·rw [if_neg h, swI_put ok hi h]; rfl
theorem ks_get {X : RmX} {i : Nat} (hi : i < X.M.length) : (ks X.M)[i]? = some X.M[i].1 := by unfold ks; rw [List.getElem?_map, List.getElem?_eq_getElem hi]; rfl
theorem sweep_snoc' (p : ByteArray × List Ver) (r : Mp) (f : Int) : sweepM (p :: r) f = (match sw1 f p with | some q => [q] | none => []) ++ sweepM r f := by
 unfold sweepM
 rw [List.filterMap_cons]
 cases sw1 f p <;> rfl
theorem sw_bound {X : RmX} {i : Nat} {n : Int} (ok : X.ok) (hi : i ≤ X.M.length) (hn : n = versM (X.M.take i) - versM (sweepM (X.M.take i) X.R.floor)) : 0 ≤ n ∧ n ≤ versM X.M := by
 have h1 : ∀ (M : Mp), 0 ≤ versM M ∧ 0 ≤ versM M - versM (sweepM M X.R.floor) ∧ 0 ≤ versM (sweepM M X.R.floor) := by
  intro M
  induction M with
  | nil => simp [versM, sumM, sweepM]
  | cons p r ih =>
   have hl := verSweep_len p.2 X.R.floor
   have e : sweepM (p :: r) X.R.floor = (match sw1 X.R.floor p with | some q => [q] | none => []) ++ sweepM r X.R.floor := sweep_snoc' p r X.R.floor
   rw [e]
   unfold versM at *
   rw [sumM_append]
   unfold sw1
   split <;> rename_i h <;> split at h <;> simp only [sumM] <;> first | omega | (cases h; done) | (obtain rfl := Option.some.inj h; simp only; omega)
 have h2 := h1 (X.M.take i)
 have h3 := h1 (X.M.drop i)
 have h4 : versM X.M = versM (X.M.take i) + versM (X.M.drop i) := by
  conv => lhs; rw [← List.take_append_drop i X.M]
  exact sumM_append _ _ _
 omega
theorem rsweep0 {b : Nat} {X : RmX} {I : RmI} (rel : RmRel X I) (ok : X.ok) : Does Tryz.prog 17 [.pointer (some ⟨b, 0, none⟩)] (RmO b X I) (fun v l => v = .int .i64 (versM X.M - versM (sweepM X.M X.R.floor)) ∧ l = [RoomC b (swX X)]) := by
 refine spec_of Tryz.func17 rfl Tryz.ntmps17 Tryz.results17 _ (by simp) fun ι F => ?_
 have hvs := ok.vers
 have hle := ok.le
 refine vc_seq ?_
 refine vc_region ?_
 refine vp ?_
 refine vc_nil ?_
 refine vc_then ?_
 refine vc_seq ?_
 refine vc_region ?_
 refine vp ?_
 refine vc_nil ?_
 refine vc_then ?_
 refine vc_seq ?_
 refine vc_seq ?_
 refine vc_region ?_
 refine vp ?_
 refine vc_callv ca_75 (us := []) (vs := []) rfl [_] rfl [0, 0, 0, 0, 0, 0, 0] rfl (rall0 rel ok) rfl ?_
 rintro _ _ ⟨hk, rfl, rfl⟩
 refine vc_see 7 rfl (Sl.vis.imp fun w r => r.len) (fun hlk => ?_)
 have hlk2 : hk.len = X.M.length := by rw [hlk]; simp [ks]
 refine vc_y (y_len Tryz.underlying136 rfl hlk2) rfl ?_
 refine vp ?_
 refine vc_ent (ent_at [0, 0, 0, 0, 0, 0, 0, 0] rfl (ent_RmO (X := swI X 0) (I := I) ⟨rel.m, rel.pos, rel.perm, rel.hl, rel.le⟩ (r := [Sl eStr hk (ks X.M)]))) ?_
 refine vc_nil ?_
 refine vc_then ?_
 refine vc_block ?_
 refine vc_loop (α := Nat × Int) (fun xq_ => match xq_ with | (i, n) => [(0, .pointer (some ⟨b, 0, none⟩)), (3, .int .i64 n), (9, hk.v), (10, .int .i64 (X.M.length : Int)), (11, .int .i64 (i : Int))]) (fun xq_ => match xq_ with | (i, n) => [RoomC b (swI X i), Sl eStr hk (ks X.M)]) (fun xq_ => match xq_ with | (i, n) => X.M.length - i) (fun xq_ => match xq_ with | (i, n) => i ≤ X.M.length ∧ n = versM (X.M.take i) - versM (sweepM (X.M.take i) X.R.floor)) (0, 0) ⟨Nat.zero_le _, by simp [versM, sumM, sweepM]⟩ ⟨rfl, rfl, rfl, rfl, rfl, trivial⟩ (ent_pick [0, 0] rfl) ?_
 rintro ⟨i, n⟩ ⟨hi, hn⟩
 show VC _ _ _ _ [(0, .pointer (some ⟨b, 0, none⟩)), (3, .int .i64 n), (9, hk.v), (10, .int .i64 (X.M.length : Int)), (11, .int .i64 (i : Int))] ([RoomC b (swI X i), Sl eStr hk (ks X.M)])
 refine vc_seq ?_
 refine vc_region ?_
 refine vp ?_
 refine vc_nil ?_
 refine vc_then ?_
 refine vc_seq ?_
 first | refine vc_condP rfl (fun c12 => ?_) (fun c12 => ?_) | refine vc_condN rfl (fun c12 => ?_) (fun c12 => ?_) | refine vc_cond rfl (fun c12 => ?_) (fun c12 => ?_)
 ·skip
  have hi2 : i < X.M.length := by omega
  have hio := swI_ok ok i
  have hch := swI_chain ok hi2
  have hlb := swI_lb ok hi2
  have hpo := ok.ps _ (List.getElem_mem hi2)
  have hcl : X.M[i].2.length ≤ 1000000 := by have := hpo.len; have := ok.bg; omega
  have hol := verOld_le X.M[i].2 X.R.floor
  have hfl : X.R.floor ≤ 9223372036854775807 := by have := ok.rg.b1; have := ok.rg.q; have := ok.rg.s1; have := ok.rg.s2; unfold RR.floor; omega
  have hnb : 0 ≤ n ∧ n ≤ versM X.M := sw_bound ok hi hn
  have hsb : n + (verOld X.M[i].2 X.R.floor : Int) ≤ versM X.M := (sw_bound ok hi2 (by rw [hn, sw_count ok hi2])).2
  refine vc_skip ?_
  refine vc_then ?_
  refine vc_seq ?_
  refine vc_block ?_
  refine vc_seq ?_
  refine vc_region ?_
  refine vc_room 0 rfl (fun J relJ => ?_)
  have hvo := relJ.vis X.M[i].1
  rw [hch] at hvo
  refine vc_y (y_elem 7 rfl (Sl.vis) i rfl (by simp [ks]; omega) sl_136 rfl rfl) rfl ?_
  refine vc_y (y_load1 7 rfl one_9 rfl (Rd.vis1 (Sl.vis) (ks_get hi2) rfl)) rfl ?_
  refine vp ?_
  refine vc_nil ?_
  refine vc_then ?_
  refine vc_seq ?_
  refine vc_region ?_
  refine vp ?_
  refine vp ?_
  refine vc_callv ca_76 (us := []) (vs := []) rfl [_, _] rfl [0, 0, 0, 0, 0, 0, 0] rfl (rchain0 relJ X.M[i].1) rfl ?_
  rintro _ _ ⟨rfl, rfl⟩
  refine vp ?_
  refine vc_nil ?_
  refine vc_then ?_
  refine vc_seq ?_
  refine vc_region ?_
  refine vp ?_
  refine vp ?_
  refine vc_callv ca_18 (us := []) (vs := []) rfl [_] rfl [0, 0, 0, 0, 0, 0, 0] rfl (rfloor0 relJ hio) rfl ?_
  rintro _ _ ⟨rfl, rfl⟩
  refine vc_callv ca_77 (us := []) (vs := []) rfl [_, _] rfl [6] rfl (Old_spec (seq := X.R.floor) hvo hcl hfl) rfl ?_
  rintro _ _ ⟨rfl, rfl⟩
  refine vp ?_
  refine vc_nil ?_
  refine vc_then ?_
  refine vc_seq ?_
  refine vc_seq ?_
  refine vc_region ?_
  refine vp ?_
  refine vp ?_
  refine vc_nil ?_
  refine vc_then ?_
  first | refine vc_condP rfl (fun c23 => ?_) (fun c23 => ?_) | refine vc_condN rfl (fun c23 => ?_) (fun c23 => ?_) | refine vc_cond rfl (fun c23 => ?_) (fun c23 => ?_)
  ·skip
   refine vc_region ?_
   iterate 4 refine vp ?_
   refine vc_callv ca_18 (us := []) (vs := []) rfl [_] rfl [1, 1, 1, 1, 1, 1, 0] rfl (rfloor0 relJ hio) rfl ?_
   rintro _ _ ⟨rfl, rfl⟩
   refine vc_callv ca_79 (us := []) (vs := []) rfl [_, _] rfl [6] rfl (Sweep_spec (seq := X.R.floor) hvo hcl hfl) rfl ?_
   rintro _ _ ⟨g, rfl, rfl⟩
   refine vc_turn 0 rfl (RoSl eVer g (verSweep X.M[i].2 X.R.floor)) Sl.share ?_
   refine vc_callv ca_78 (us := []) (vs := []) rfl [_, _, _] rfl [2, 2, 2, 2, 2, 2, 1, 0] rfl (lay_any relJ hio hpo.k2 (by have := verSweep_len X.M[i].2 X.R.floor; omega) hlb.2) rfl ?_
   rintro _ _ ⟨rfl, rfl⟩
   refine vc_nil ?_
   refine vc_then ?_
   refine vc_region ?_
   refine vc_re 0 rfl (congrArg (RoomC b) (swI_step ok hi2)) ?_
   refine vp ?_
   refine vp ?_
   first | refine vc_y (y_arith _ rfl (wrap64 (by omega) (by omega))) rfl ?_ | refine vp ?_
   refine vp ?_
   refine vc_nil ?_
   refine vc_inNormal ?_
   refine vc_then ?_
   refine vc_region ?_
   first | refine vc_y (y_arith _ rfl (wrapNadd (by omega))) rfl ?_ | refine vc_y (y_arith _ rfl (wrap64 (by omega) (by omega))) rfl ?_ | refine vp ?_
   refine vp ?_
   skip
   refine vc_nil ?_
   refine vc_then ?_
   exact vc_again (x := (i, n)) (i + 1, n + (verOld X.M[i].2 X.R.floor : Int)) ⟨hi2, by rw [hn, sw_count ok hi2]⟩ (by show X.M.length - (i + 1) < X.M.length - i; omega) ⟨rfl, rfl, rfl, rfl, rfl, trivial⟩ (ent_pick [0, 0] rfl)
  ·skip
   refine vc_skip ?_
   refine vc_then ?_
   refine vc_region ?_
   have hz : verOld X.M[i].2 X.R.floor = 0 := by omega
   refine vc_ent (ent_at [1, 1, 1, 1, 1, 1, 0, 0] rfl (ent_RmO relJ (r := [Sl eStr hk (ks X.M)]))) ?_
   refine vc_re 0 rfl (congrArg (RoomC b) (swI_none ok hi2 hz).symm) ?_
   refine vp ?_
   refine vp ?_
   first | refine vc_y (y_arith _ rfl (wrap64 (by omega) (by omega))) rfl ?_ | refine vp ?_
   refine vp ?_
   refine vc_nil ?_
   refine vc_inNormal ?_
   refine vc_then ?_
   refine vc_region ?_
   first | refine vc_y (y_arith _ rfl (wrapNadd (by omega))) rfl ?_ | refine vc_y (y_arith _ rfl (wrap64 (by omega) (by omega))) rfl ?_ | refine vp ?_
   refine vp ?_
   skip
   refine vc_nil ?_
   refine vc_then ?_
   exact vc_again (x := (i, n)) (i + 1, n + (verOld X.M[i].2 X.R.floor : Int)) ⟨hi2, by rw [hn, sw_count ok hi2]⟩ (by show X.M.length - (i + 1) < X.M.length - i; omega) ⟨rfl, rfl, rfl, rfl, rfl, trivial⟩ (ent_pick [0, 0] rfl)
 ·skip
  obtain rfl : i = X.M.length := by omega
  rw [List.take_length] at hn
  refine vc_exit ?_
  refine vc_thenExit ?_
  refine vc_thenExit ?_
  refine vc_inExit ?_
  refine vc_then ?_
  refine vc_seq ?_
  refine vc_region ?_
  refine vp ?_
  refine vp ?_
  refine vc_nil ?_
  refine vc_then ?_
  refine vc_ret ?_
  exact vc_end1 Tryz.results17 rfl _ (ent_pick [0] rfl) ⟨by rw [hn], by simp only [swI, swX, List.take_length, List.drop_length, List.append_nil]⟩
end Go.Proofs.YtcpbibdbahfgaaaGreat
namespace Go.Proofs.YtcpbibdbahfgaaaGreat
open Go.Eng
namespace FRoom5
theorem ca_75 : Callable Tryz.prog 75 := ⟨_, _, Tryz.func75, rfl, rfl⟩
theorem sl_136 : TySl Tryz.prog 136 9 1 := ⟨Tryz.underlying136, by kernel_rfl⟩
theorem one_9 : TyOne Tryz.prog 9 := ⟨⟨_, Tryz.underlying9, rfl⟩, by kernel_rfl⟩
theorem ca_76 : Callable Tryz.prog 76 := ⟨_, _, Tryz.func76, rfl, rfl⟩
theorem ca_16 : Callable Tryz.prog 16 := ⟨_, _, Tryz.func16, rfl, rfl⟩
theorem ca_81 : Callable Tryz.prog 81 := ⟨_, _, Tryz.func81, rfl, rfl⟩
theorem ze_135 : (Tryz.prog.info? 135).map (·.zero) = some (some (.agg #[.int .i64 0, .bool false, .bool false, .string ⟨#[]⟩, .int .u64 0])) := by kernel_rfl
theorem sz_135 : (Tryz.prog.info? 135).map (·.size) = some 5 := by kernel_rfl
theorem fl_135_0 : Fld Tryz.prog 135 0 0 := ⟨_, _, 0, Tryz.underlying135, rfl, rfl, by kernel_rfl⟩
theorem one_3 : TyOne Tryz.prog 3 := ⟨⟨_, Tryz.underlying3, rfl⟩, by kernel_rfl⟩
theorem fl_135_2 : Fld Tryz.prog 135 2 2 := ⟨_, _, 2, Tryz.underlying135, rfl, rfl, by kernel_rfl⟩
theorem ag_45 : TyAgg Tryz.prog 45 3 := ⟨⟨_, Tryz.underlying45, rfl⟩, by kernel_rfl⟩
theorem ze_56 : (Tryz.prog.info? 56).map (·.zero) = some (some (.agg #[.string ⟨#[]⟩, .int .i64 0, .bool false, .string ⟨#[]⟩, .int .u64 0])) := by kernel_rfl
theorem bu_56_0_1_2 (v0 : Value) (v1 : Value) (v2_0 v2_1 v2_2 : Value) (h0 : v0.cells = #[v0]) (h1 : v1.cells = #[v1]) (w : World) : (Instr.build 56 #[(0, v0), (1, v1), (2, .agg #[v2_0, v2_1, v2_2])]).run Tryz.prog w = .ok (.agg #[v0, v1, v2_0, v2_1, v2_2]) w := by
 have hz := @ze_56
 exact Go.Eng.run_build (pl := [(0, 1), (1, 1), (2, 3)]) hz Tryz.underlying56 (by kernel_rfl) rfl (by simp [Instr.fill, h0, h1, cells_agg]) w
theorem sz_56 : (Tryz.prog.info? 56).map (·.size) = some 5 := by kernel_rfl
theorem bs_52_1 (v0_0 v0_1 v0_2 v0_3 v0_4 : Value)  (w : World) : (Instr.buildSlice 52 1 #[(0, .agg #[v0_0, v0_1, v0_2, v0_3, v0_4])]).run Tryz.prog w = .ok (.slice (some ⟨w.heap.size, 0, none⟩) 1 1) { w with heap := w.heap.push (.cells #[v0_0, v0_1, v0_2, v0_3, v0_4] 56 (0, 0)) } :=
 Go.Eng.run_buildSlice Tryz.underlying52 sz_56 ze_56 (by decide) (by rw [show Array.range (1 * 5) = #[0, 1, 2, 3, 4] from by decide]; simp [Instr.fill, cells_agg]) w
theorem el_52_eEn : TyEl Tryz.prog 52 eEn 56 := ⟨Tryz.underlying52, .agg #[.string ⟨#[]⟩, .int .i64 0, .bool false, .string ⟨#[]⟩, .int .u64 0], by kernel_rfl, rfl⟩
theorem ze_24 : (Tryz.prog.info? 24).map (·.zero) = some (some (.agg #[.slice none 0 0, .int .i64 0, .int .i64 0, .int .i64 0])) := by kernel_rfl
theorem ep_28 : Tryz.prog.underlying 28 = some (.pointer (Tryz.prog.pointee 28)) := by kernel_rfl
theorem fl_132_0 : Fld Tryz.prog 132 0 0 := ⟨_, _, 3, Tryz.underlying132, rfl, rfl, by kernel_rfl⟩
theorem ag_24 : TyAgg Tryz.prog 24 4 := ⟨⟨_, Tryz.underlying24, rfl⟩, by kernel_rfl⟩
theorem sz_24 : (Tryz.prog.info? 24).map (·.size) = some 4 := by kernel_rfl
theorem fl_24_0 : Fld Tryz.prog 24 0 0 := ⟨_, _, 0, Tryz.underlying24, rfl, rfl, by kernel_rfl⟩
theorem one_22 : TyOne Tryz.prog 22 := ⟨⟨_, Tryz.underlying22, rfl⟩, by kernel_rfl⟩
theorem ca_101 : Callable Tryz.prog 101 := ⟨_, _, Tryz.func101, rfl, rfl⟩
theorem sz_22 : (Tryz.prog.info? 22).map (·.size) = some 1 := by kernel_rfl
end FRoom5
open FRoom5
theorem rent0 {b : Nat} {X : RmX} {I : RmI} (rel : RmRel X I) (ok : X.ok) : Does Tryz.prog 26 [.pointer (some ⟨b, 0, none⟩)] (RmO b X I) (fun v l => ∃ h', v = h'.v ∧ l = RmO b X I ++ [Sl eEn h' (entM X.M X.R.seq)]) := by
 refine spec_of Tryz.func26 rfl Tryz.ntmps26 Tryz.results26 _ (by simp) fun ι F => ?_
 have hle := ok.le
 have hsq : X.R.seq ≤ 9223372036854775807 := by have := ok.rg.q; omega
 refine vc_seq ?_
 refine vc_region ?_
 refine vp ?_
 refine vc_nil ?_
 refine vc_then ?_
 refine vc_seq ?_
 refine vc_region ?_
 refine vp ?_
 refine vc_nil ?_
 refine vc_then ?_
 refine vc_seq ?_
 refine vc_seq ?_
 refine vc_region ?_
 refine vc_ent (l' := Sl eEn nilS [] :: _) sl_new ?_
 refine vp ?_
 refine vc_callv ca_75 (us := []) (vs := []) rfl [_] rfl [1, 1, 1, 1, 1, 1, 1] rfl (rall0 rel ok) rfl ?_
 rintro _ _ ⟨hk, rfl, rfl⟩
 refine vc_see 7 rfl (Sl.vis.imp fun w r => r.len) (fun hlk => ?_)
 have hlk2 : hk.len = X.M.length := by rw [hlk]; simp [ks]
 refine vc_y (y_len Tryz.underlying136 rfl hlk2) rfl ?_
 refine vp ?_
 refine vc_nil ?_
 refine vc_then ?_
 refine vc_block ?_
 refine vc_loop (α := Nat × SH × List En) (fun xq_ => match xq_ with | (i, hh, es) => [(0, .pointer (some ⟨b, 0, none⟩)), (3, hh.v), (9, hk.v), (10, .int .i64 (X.M.length : Int)), (11, .int .i64 (i : Int))]) (fun xq_ => match xq_ with | (i, hh, es) => RmO b X I ++ [Sl eStr hk (ks X.M), Sl eEn hh es]) (fun xq_ => match xq_ with | (i, hh, es) => X.M.length - i) (fun xq_ => match xq_ with | (i, hh, es) => i ≤ X.M.length ∧ es = entM (X.M.take i) X.R.seq ∧ es.length ≤ i) (0, nilS, []) ⟨Nat.zero_le _, rfl, Nat.le_refl _⟩ ⟨rfl, rfl, rfl, rfl, rfl, trivial⟩ (ent_pick [0, 0, 0, 0, 0, 0, 0, 0, 0] rfl) ?_
 rintro ⟨i, hh, es⟩ ⟨hi, hst, hul⟩
 show VC _ _ _ _ [(0, .pointer (some ⟨b, 0, none⟩)), (3, hh.v), (9, hk.v), (10, .int .i64 (X.M.length : Int)), (11, .int .i64 (i : Int))] (RmO b X I ++ [Sl eStr hk (ks X.M), Sl eEn hh es])
 refine vc_seq ?_
 refine vc_region ?_
 refine vp ?_
 refine vc_nil ?_
 refine vc_then ?_
 refine vc_seq ?_
 first | refine vc_condP rfl (fun c12 => ?_) (fun c12 => ?_) | refine vc_condN rfl (fun c12 => ?_) (fun c12 => ?_) | refine vc_cond rfl (fun c12 => ?_) (fun c12 => ?_)
 ·skip
  have hi2 : i < X.M.length := by omega
  have hch := chain_mem ok.rise (List.getElem_mem hi2)
  have hpo := ok.ps _ (List.getElem_mem hi2)
  have hcl : X.M[i].2.length ≤ 1000000 := by have := hpo.len; have := ok.bg; omega
  have hvo := rel.vis X.M[i].1
  rw [hch] at hvo
  have hsn : entM (X.M.take (i + 1)) X.R.seq = entM (X.M.take i) X.R.seq ++ (match verAt X.M[i].2 X.R.seq with | some v => [⟨X.M[i].1, v.seq, v.val⟩] | none => []) := by rw [List.take_succ_eq_append_getElem hi2]; exact ent_snoc _ _ _
  refine vc_skip ?_
  refine vc_then ?_
  refine vc_seq ?_
  refine vc_block ?_
  refine vc_seq ?_
  refine vc_region ?_
  refine vc_y (y_elem 7 rfl (Sl.vis) i rfl (by simp [ks]; omega) sl_136 rfl rfl) rfl ?_
  refine vc_y (y_load1 7 rfl one_9 rfl (Rd.vis1 (Sl.vis) (ks_get hi2) rfl)) rfl ?_
  refine vp ?_
  refine vc_nil ?_
  refine vc_then ?_
  refine vc_seq ?_
  refine vc_region ?_
  refine vp ?_
  refine vp ?_
  refine vc_callv ca_76 (us := []) (vs := []) rfl [_, _] rfl [0, 0, 0, 0, 0, 0, 0] rfl (rchain0 rel X.M[i].1) rfl ?_
  rintro _ _ ⟨rfl, rfl⟩
  refine vp ?_
  refine vc_callv ca_16 (us := []) (vs := []) rfl [_] rfl [0, 0, 0, 0, 0, 0, 0] rfl (rseq0 rel ok) rfl ?_
  rintro _ _ ⟨rfl, rfl⟩
  refine vc_callv ca_81 (us := []) (vs := []) rfl [_, _] rfl [6] rfl (At_spec hvo hcl hsq) rfl ?_
  rintro _ _ ⟨rfl, rfl⟩
  iterate 3 refine vp ?_
  refine vc_alloc [.int .i64 0, .bool false, .bool false, .string ⟨#[]⟩, .int .u64 0] ze_135 rfl rfl (fun b6 => ?_)
  refine vc_storeP 0 rfl [_, _, _, _, _] [_, _, _, _, _] rfl rfl rfl sz_135 rfl rfl rfl ?_
  refine vp ?_
  refine vc_nil ?_
  refine vc_then ?_
  refine vc_seq ?_
  refine vc_region ?_
  refine vp ?_
  refine vc_nil ?_
  refine vc_then ?_
  first | refine vc_condP rfl (fun c24 => ?_) (fun c24 => ?_) | refine vc_condN rfl (fun c24 => ?_) (fun c24 => ?_) | refine vc_cond rfl (fun c24 => ?_) (fun c24 => ?_)
  ·skip
   obtain ⟨x, hx⟩ : ∃ x, verAt X.M[i].2 X.R.seq = some x := by
    cases h0 : verAt X.M[i].2 X.R.seq with
    | none => rw [h0] at c24; cases c24
    | some x => exact ⟨x, rfl⟩
   rw [hx]
   refine vc_region ?_
   refine vp ?_
   refine vp ?_
   refine vc_y (y_fieldP fl_135_0 0 rfl rfl) rfl ?_
   refine vc_y (y_load1 0 rfl one_3 rfl (Pts.vis rfl)) rfl ?_
   refine vc_y (y_fieldP fl_135_2 2 rfl rfl) rfl ?_
   refine vc_y (y_loadA 0 rfl (cs := [_, _, _]) ag_45 rfl (Pts.visA rfl)) rfl ?_
   refine vc_y (y_build [(0, _), (1, _), (2, _)] [_, _, _, _, _] rfl (bu_56_0_1_2 _ _ _ _ _ rfl rfl)) rfl ?_
   refine vc_buildSlice (E := eEn) [(0, _)] [⟨X.M[i].1, x.seq, x.val⟩] rfl rfl (bs_52_1 _ _ _ _ _ ) rfl (fun h32 => ?_)
   refine vc_append 10 rfl 0 rfl (Sl.vis) el_52_eEn Tryz.underlying52 rfl rfl (by simp; omega) (by simp; omega) rfl (fun h33 => ?_)
   refine vp ?_
   refine vc_nil ?_
   refine vc_inNormal ?_
   refine vc_then ?_
   refine vc_region ?_
   first | refine vc_y (y_arith _ rfl (wrapNadd (by omega))) rfl ?_ | refine vc_y (y_arith _ rfl (wrap64 (by omega) (by omega))) rfl ?_ | refine vp ?_
   refine vp ?_
   refine vc_nil ?_
   refine vc_then ?_
   first | exact vc_again (x := (i, hh, es)) (i + 1, h33, es ++ [⟨X.M[i].1, x.seq, x.val⟩]) ⟨hi2, by rw [hsn, hx, hst], by simp; omega⟩ (by show X.M.length - (i + 1) < X.M.length - i; omega) ⟨rfl, rfl, rfl, rfl, rfl, trivial⟩ (ent_pick [3, 3, 3, 3, 3, 3, 2, 2, 2] rfl) | exact vc_again (x := (i, hh, es)) (i + 1, hh, es) ⟨hi2, by rw [hsn, hx, hst]; simp, by omega⟩ (by show X.M.length - (i + 1) < X.M.length - i; omega) ⟨rfl, rfl, rfl, rfl, rfl, trivial⟩ (ent_pick [3, 3, 3, 3, 3, 3, 2, 2, 2] rfl)
  ·skip
   have hx : verAt X.M[i].2 X.R.seq = none := by
    cases h0 : verAt X.M[i].2 X.R.seq with
    | none => rfl
    | some x => rw [h0] at c24; cases c24
   refine vc_skip ?_
   refine vc_inNormal ?_
   refine vc_then ?_
   refine vc_region ?_
   first | refine vc_y (y_arith _ rfl (wrapNadd (by omega))) rfl ?_ | refine vc_y (y_arith _ rfl (wrap64 (by omega) (by omega))) rfl ?_ | refine vp ?_
   refine vp ?_
   refine vc_nil ?_
   refine vc_then ?_
   first | exact vc_again (x := (i, hh, es)) (i + 1, h33, es ++ [⟨X.M[i].1, x.seq, x.val⟩]) ⟨hi2, by rw [hsn, hx, hst], by simp; omega⟩ (by show X.M.length - (i + 1) < X.M.length - i; omega) ⟨rfl, rfl, rfl, rfl, rfl, trivial⟩ (ent_pick [2, 2, 2, 2, 2, 2, 1, 1, 1] rfl) | exact vc_again (x := (i, hh, es)) (i + 1, hh, es) ⟨hi2, by rw [hsn, hx, hst]; simp, by omega⟩ (by show X.M.length - (i + 1) < X.M.length - i; omega) ⟨rfl, rfl, rfl, rfl, rfl, trivial⟩ (ent_pick [2, 2, 2, 2, 2, 2, 1, 1, 1] rfl)
 ·skip
  obtain rfl : i = X.M.length := by omega
  rw [List.take_length] at hst
  refine vc_exit ?_
  refine vc_thenExit ?_
  refine vc_thenExit ?_
  refine vc_inExit ?_
  refine vc_then ?_
  refine vc_seq ?_
  refine vc_region ?_
  refine vp ?_
  refine vp ?_
  refine vc_nil ?_
  refine vc_then ?_
  refine vc_ret ?_
  exact vc_end1 Tryz.results26 rfl _ (ent_pick [0, 0, 0, 0, 0, 0, 0, 1] rfl) ⟨hh, rfl, by rw [hst]; rfl⟩
theorem rset0 {b : Nat} {X : RmX} {I : RmI} (rel : RmRel X I) (ok : X.ok) : Does Tryz.prog 38 [.pointer (some ⟨b, 0, none⟩)] (RmO b X I) (fun v l => ∃ g, v = .agg #[g.v, .int .i64 X.ring, .int .i64 X.quota, .int .i64 X.most] ∧ l = RmO b X I ++ [Sl eU64 g X.label]) := by
 refine spec_of Tryz.func38 rfl Tryz.ntmps38 Tryz.results38 _ (by simp) fun ι F => ?_
 refine vc_seq ?_
 refine vc_region ?_
 refine vc_alloc [.slice none 0 0, .int .i64 0, .int .i64 0, .int .i64 0] ze_24 rfl rfl (fun b2 => ?_)
 refine vc_nil ?_
 refine vc_then ?_
 refine vc_seq ?_
 refine vc_seq ?_
 refine vc_region ?_
 refine vp ?_
 refine vc_y (y_eqNil ep_28 rfl rfl) rfl ?_
 refine vc_nil ?_
 refine vc_then ?_
 refine vc_condF rfl ?_
 refine vc_skip ?_
 refine vc_then ?_
 refine vc_seq ?_
 refine vc_region ?_
 refine vp ?_
 refine vp ?_
 refine vc_y (y_fieldP fl_132_0 0 rfl rfl) rfl ?_
 refine vc_y (y_loadA 1 rfl (cs := [_, _, _, _]) ag_24 rfl (Pts.visA rfl)) rfl ?_
 refine vc_alloc [.slice none 0 0, .int .i64 0, .int .i64 0, .int .i64 0] ze_24 rfl rfl (fun b3 => ?_)
 refine vc_storeP 0 rfl [_, _, _, _] [_, _, _, _] rfl rfl rfl sz_24 rfl rfl rfl ?_
 refine vc_nil ?_
 refine vc_then ?_
 refine vc_seq ?_
 refine vc_region ?_
 refine vc_y (y_fieldP fl_24_0 0 rfl rfl) rfl ?_
 refine vc_y (y_load1 0 rfl one_22 rfl (Pts.vis rfl)) rfl ?_
 refine vc_callv ca_101 (us := []) (vs := []) rfl [_] rfl [3] rfl (cloneU_spec Sl.vis (Nat.le_trans (labelRight_len ok.lab) (by decide))) rfl ?_
 rintro _ _ ⟨g, rfl, rfl⟩
 refine vc_y (y_fieldP fl_24_0 0 rfl rfl) rfl ?_
 refine vc_storeP 2 rfl [_] [_, _, _, _] rfl rfl rfl sz_22 rfl rfl rfl ?_
 refine vc_nil ?_
 refine vc_then ?_
 refine vc_seq ?_
 refine vc_region ?_
 refine vc_y (y_loadA 2 rfl (cs := [_, _, _, _]) ag_24 rfl (Pts.visA rfl)) rfl ?_
 refine vc_storeP 3 rfl [_, _, _, _] [_, _, _, _] rfl rfl rfl sz_24 rfl rfl rfl ?_
 refine vc_nil ?_
 refine vc_then ?_
 refine vc_ret ?_
 exact vc_endR Tryz.results38 (resL_cons (res_a 3 rfl (cs := [_, _, _, _]) ag_24 rfl (Pts.visA rfl)) (resL_nil)) _ (ent_pick [4, 1, 3, 3, 3, 3, 3, 0] rfl) ⟨g, rfl, rfl⟩
section
variable {b : Nat} {X : RmX}
theorem room_sweep (ok : X.ok) : Does Tryz.prog 17 [.pointer (some ⟨b, 0, none⟩)] [RoomC b X] (fun v l => v = .int .i64 (versM X.M - versM (sweepM X.M X.R.floor)) ∧ l = [RoomC b (swX X)]) :=
 room_does (r := []) fun I rel => by rw [List.append_nil]; exact rsweep0 rel ok
theorem room_entries (ok : X.ok) : Does Tryz.prog 26 [.pointer (some ⟨b, 0, none⟩)] [RoomC b X] (fun v l => ∃ h', v = h'.v ∧ l = [RoomC b X, Sl eEn h' (entM X.M X.R.seq)]) :=
 room_does (r := []) fun I rel => by rw [List.append_nil]; exact Does.fin (rent0 rel ok) fun v l ⟨h', e, h⟩ => ⟨_, h ▸ ent_RmO rel (r := [Sl eEn h' (entM X.M X.R.seq)]), h', e, rfl⟩
theorem room_setting (ok : X.ok) : Does Tryz.prog 38 [.pointer (some ⟨b, 0, none⟩)] [RoomC b X] (fun v l => ∃ g, v = .agg #[g.v, .int .i64 X.ring, .int .i64 X.quota, .int .i64 X.most] ∧ l = [RoomC b X, Sl eU64 g X.label]) :=
 room_does (r := []) fun I rel => by rw [List.append_nil]; exact Does.fin (rset0 rel ok) fun v l ⟨g, e, h⟩ => ⟨_, h ▸ ent_RmO rel (r := [Sl eU64 g X.label]), g, e, rfl⟩
end
end Go.Proofs.YtcpbibdbahfgaaaGreat
namespace Go.Eng
section
variable {P : Program} {ι : Io} {F : HP} {n : Nat} {ρ : List (Nat × Value)} {l : List HP} {K : Act → World → Prop} {Q : Exit → Act → World → Prop} {all : Array Oper} {rest : List Oper}
variable {d : Nat} {ty : TypeId} {pos : String} {aft : Array Edge} {dst : Option Nat} {gd : Option (Nat × Bool)}
theorem flat_repz {α : Type} {E : Enc α} {z : α} {zv : Value} (hz : E.f z = [zv]) : ∀ m : Nat, flat E (List.replicate m z) = List.replicate m zv
 | 0 => rfl
 | m + 1 => by rw [List.replicate_succ, flat_cons, hz, flat_repz hz m]; rfl
theorem vc_makeSlice {α : Type} {E : Enc α} {t : TypeId} {x y : Operand} (m : Nat) {z : α} (zv : Value) (nb : Nat) (ht : P.underlying t = some (.slice E.ty)) (hinf : (P.info? E.ty).map (fun i => (i.zero, i.size, i.bytes)) = some (some zv, 1, nb)) (hzc : zv.cells = #[zv]) (hz : E.f z = [zv])
 (hx : ev ρ x = some (.int .i64 (m : Int))) (hy : ev ρ y = some (.int .i64 (m : Int))) (hb : m ≤ 16777216 ∧ nb * m ≤ 281474976710656) (hd : Nat.blt d n = true)
 (h : ∀ h : SH, VC ι F n (wpList P all Q rest) ((d, h.v) :: ρ) (Sl E h (List.replicate m z) :: l)) : VC ι F n (wpList P all Q (⟨some d, .makeSlice t x y, ty, pos, aft, none⟩ :: rest)) ρ l := fun a w he hw =>
 wpList_plain rfl fun K hK => by
  obtain ⟨i, hi, hzi, hsi, hnb⟩ : ∃ i, P.info? E.ty = some i ∧ i.zero = some zv ∧ i.size = 1 ∧ i.bytes = nb := by
   cases hq : P.info? E.ty with
   | none => rw [hq] at hinf; cases hinf
   | some i => rw [hq] at hinf; simp at hinf; exact ⟨i, rfl, hinf⟩
  subst hnb
  have hm := run_makeSlice (P := P) (w := w) t E.ty i zv ht hi hzi .i64 .i64 (m : Int) (m : Int) (by omega) (by omega) (by rw [hsi]; omega) (by have := hb.2; omega) (by omega)
  have hc : madeCells zv.cells ((m : Int).toNat * i.size) = (flat E (List.replicate m z)).toArray := by
   rw [flat_repz hz, hsi, hzc]
   apply Array.ext'
   simp [madeCells, Nat.mod_one, List.map_const']
  have hr : (execOp a.eval ⟨some d, .makeSlice t x y, ty, pos, aft, none⟩).run P w = .ok (.value (.slice (some ⟨w.heap.size, 0, none⟩) m m)) { w with heap := w.heap.push (.cells (flat E (List.replicate m z)).toArray E.ty (0, 0)) } := by
   simp only [execOp, he.eval hx, he.eval hy, Sem.run_bind, hm, Result.andThen_ok, hc]; rfl
  unfold Oper.wp
  rw [hr]
  refine hK _ _ (h ⟨some ⟨w.heap.size, 0, none⟩, m, m⟩ _ _ (he.put d hd _) (((hw.new (flat E (List.replicate m z)) E.ty).ent Ent.assoc').ent (Ent.sep (Ent.sep ?_ Ent.rfl) Ent.rfl)))
  have := Sl.mk1 (E := E) w.heap.size (List.replicate m z) m [] (by simp) (by simp)
  simpa using this
end
end Go.Eng
namespace Go.Proofs.YtcpbibdbahfgaaaGreat
open Go.Eng
abbrev On := ByteArray × SH × List Ver
def eOne : Enc On := ⟨152, 2, fun p => [.string p.1, p.2.1.v], fun _ => rfl, fun _ c h => by simp at h; rcases h with rfl | rfl <;> rfl, by decide⟩
def eU8 : Enc Int := ⟨5, 1, fun n => [.int .u8 n], fun _ => rfl, fun _ c h => by simp at h; subst h; rfl, by decide⟩
def mpT (T : List On) : Mp := T.map fun p => (p.1, p.2.2)
theorem mpT_append (T U : List On) : mpT (T ++ U) = mpT T ++ mpT U := by simp [mpT]
theorem mpT_length (T : List On) : (mpT T).length = T.length := by simp [mpT]
theorem mpT_drop (T : List On) (i : Nat) : mpT (T.drop i) = (mpT T).drop i := by simp [mpT, List.map_drop]
theorem mpT_take (T : List On) (i : Nat) : mpT (T.take i) = (mpT T).take i := by simp [mpT, List.map_take]
def RoM (T : List On) : HP :=
 ⟨fun r x => ∀ p ∈ T, (RoSl eVer p.2.1 p.2.2).P r x, fun hr hx hp p hq => (RoSl eVer p.2.1 p.2.2).mono hr hx (hp p hq)⟩
theorem RoM.get {T : List On} {p : On} (h : p ∈ T) : Ent (RoM T) (RoSl eVer p.2.1 p.2.2) := fun r x hp => hp p h
theorem RoM.vis {T : List On} {p : On} (h : p ∈ T) : Vis (RoM T) (Rd eVer p.2.1 p.2.2) := RoSl.vis.ent (RoM.get h)
theorem RoM.nil : Ent emp (RoM []) := fun r x _ p hp => by cases hp
theorem RoM.sub {T U : List On} (h : ∀ p ∈ U, p ∈ T) : Ent (RoM T) (RoM U) := fun r x hp p hq => hp p (h p hq)
theorem RoM.app {T U : List On} : Ent (sep (RoM T) (RoM U)) (RoM (T ++ U)) := by
 rintro r x ⟨x1, x2, hj, hp, hq⟩ p h
 rcases List.mem_append.1 h with h | h
 ·exact (RoSl eVer p.2.1 p.2.2).mono Sub.rfl hj.sub1 (hp p h)
 ·exact (RoSl eVer p.2.1 p.2.2).mono Sub.rfl hj.sub2 (hq p h)
theorem RoM.one {k : ByteArray} {h : SH} {c : List Ver} : Ent (RoSl eVer h c) (RoM [(k, h, c)]) := fun r x hp p hq => by
 simp at hq; subst hq; exact hp
theorem RoM.dup {T : List On} : Ent (RoM T) (sep (RoM T) (RoM T)) := fun r x hp =>
 ⟨x, fun _ => none, fun _ => .inl ⟨rfl, rfl⟩, hp, fun p hq => by
  obtain ⟨h1, h2⟩ := hp p hq
  exact ⟨h1, h2⟩⟩
theorem RoM.keep {T U : List On} {p : On} (h : p ∈ T) {r : List HP} : Ent (seps (RoM U :: RoM T :: r)) (seps (RoM (U ++ [p]) :: RoM T :: r)) :=
 (Ent.sep Ent.rfl ((Ent.sep RoM.dup Ent.rfl).trans Ent.assoc)).trans (Ent.assoc'.trans (Ent.sep ((Ent.sep Ent.rfl (RoM.sub (U := [p]) (fun q hq => by simp at hq; rw [hq]; exact h))).trans RoM.app) Ent.rfl))
theorem RoM.new {U : List On} {k : ByteArray} {h : SH} {c : List Ver} {r : List HP} : Ent (seps (RoSl eVer h c :: RoM U :: r)) (seps (RoM (U ++ [(k, h, c)]) :: r)) :=
 Ent.assoc'.trans (Ent.sep (((Ent.comm).trans (Ent.sep Ent.rfl RoM.one)).trans RoM.app) Ent.rfl)
def atGo (s : Int) : List Ver → Ver × Bool → Ver × Bool
 | [], st => st
 | v :: r, st => atGo s r (if v.seq ≤ s then (v, !v.gone) else st)
theorem atGo_eq (s : Int) : ∀ {l : List Ver} {last : Int} (h : chainFrom last l = true) (st : Ver × Bool), atGo s l st = if bhd l s = 0 then st else match l[bhd l s - 1]? with | some v => (v, !v.gone) | none => st
 | [], _, _, st => rfl
 | v :: r, last, h, st => by
  simp only [chainFrom, Bool.and_eq_true, decide_eq_true_eq] at h
  have ih := atGo_eq s h.2.2
  simp only [atGo, bhd]
  rw [ih]
  by_cases h1 : v.seq ≤ s
  ·simp only [if_pos h1]
   by_cases h2 : bhd r s = 0
   ·simp [h2]
   ·rw [if_neg h2, if_neg (by omega)]
    have hb := bhd_le r s
    have e1 : (v :: r)[bhd r s + 1 - 1]? = r[bhd r s - 1]? := by
     rw [show bhd r s + 1 - 1 = (bhd r s - 1) + 1 by omega, List.getElem?_cons_succ]
    rw [e1, List.getElem?_eq_getElem (by omega)]
  ·simp only [if_neg h1]
   have : bhd r s = 0 := by
    cases r with
    | nil => rfl
    | cons x r =>
     have := (chainFrom_mem h.2.2 x (by simp)).1
     simp only [bhd]
     rw [if_neg (by omega)]
   simp [this]
theorem atGo_ver {l : List Ver} (h : chainRight l = true) (s : Int) : (if (atGo s l (ver0, false)).2 then some (atGo s l (ver0, false)).1 else none) = verAt l s := by
 rw [atGo_eq s h]
 unfold verAt
 by_cases hz : bhd l s = 0
 ·rw [if_pos hz, h]
  simp [hz]
  split <;> simp_all
 ·have hb := bhd_le l s
  have h1 : 1 ≤ s := by
   cases l with
   | nil => exact absurd rfl hz
   | cons v r =>
    simp only [bhd] at hz
    split at hz
    ·have := (chainFrom_mem h v (by simp)).1; omega
    ·exact absurd rfl hz
  rw [if_neg hz, List.getElem?_eq_getElem (by omega), h]
  simp only [Bool.true_and, decide_eq_true h1, if_true, hz, decide_false, Bool.false_or]
  cases (l[bhd l s - 1]'(by omega)).gone <;> rfl
def swGo (f : Int) : List Ver → List Ver
 | [] => []
 | v :: r => (match r with | w :: _ => if w.seq ≤ f then [] else [v] | [] => [v]) ++ swGo f r
theorem swGo_eq (f : Int) : ∀ {l : List Ver} {last : Int} (h : chainFrom last l = true), swGo f l = l.drop (bhd l f - 1)
 | [], _, _ => rfl
 | [v], _, _ => by
  simp only [swGo, bhd]
  split <;> rfl
 | v :: w :: r, last, h => by
  simp only [chainFrom, Bool.and_eq_true, decide_eq_true_eq] at h
  have h2 : chainFrom v.seq (w :: r) = true := by simp only [chainFrom, Bool.and_eq_true, decide_eq_true_eq]; exact h.2.2
  have ih := swGo_eq f h2
  have e : swGo f (v :: w :: r) = (if w.seq ≤ f then [] else [v]) ++ swGo f (w :: r) := rfl
  rw [e, ih]
  by_cases h1 : w.seq ≤ f
  ·rw [if_pos h1]
   have hv : v.seq ≤ f := by omega
   simp only [bhd, if_pos h1, if_pos hv]
   rfl
  ·rw [if_neg h1]
   have hb : bhd (w :: r) f = 0 := by simp only [bhd]; rw [if_neg h1]
   have hb2 : bhd (v :: w :: r) f - 1 = 0 := by
    simp only [bhd] at hb ⊢
    rw [hb]; split <;> rfl
   rw [hb, hb2]; rfl
def swEnd (f : Int) (l : List Ver) : List Ver := match l with
 | v :: r => if v.gone && decide (v.seq ≤ f) then r else v :: r
 | [] => []
theorem swEnd_eq {l : List Ver} (h : chainRight l = true) (f : Int) : swEnd f (swGo f l) = verSweep l f := by
 rw [swGo_eq f h]
 unfold verSweep
 rw [if_pos h]
 by_cases hz : bhd l f = 0
 ·have hv : verOld l f = 0 := by
   unfold verOld
   simp only [hz]
   split
   ·split
    ·simp
    ·rfl
   ·rfl
  rw [hv, hz]
  cases l with
  | nil => rfl
  | cons v r =>
   simp only [bhd] at hz
   have : ¬ v.seq ≤ f := fun h0 => by rw [if_pos h0] at hz; cases hz
   simp [swEnd, this]
 ·have hb := bhd_le l f
  have hlt : bhd l f - 1 < l.length := by omega
  have h1 : 1 ≤ f := by
   cases l with
   | nil => exact absurd rfl hz
   | cons v r =>
    simp only [bhd] at hz
    split at hz
    ·have := (chainFrom_mem h v (by simp)).1; omega
    ·exact absurd rfl hz
  have hle : (l[bhd l f - 1]).seq ≤ f := by
   have : ∀ (l : List Ver) (i : Nat) (hi : i < l.length), i < bhd l f → l[i].seq ≤ f := by
    intro l
    induction l with
    | nil => intro i hi; simp at hi
    | cons v r ih =>
     intro i hi hb
     simp only [bhd] at hb
     split at hb
     ·cases i with
      | zero => assumption
      | succ i => exact ih i (by simpa using hi) (by omega)
     ·omega
   exact this l _ hlt (by omega)
  unfold verOld
  rw [h, List.getElem?_eq_getElem hlt, List.drop_eq_getElem_cons hlt]
  simp only [Bool.true_and, decide_eq_true h1, if_true, swEnd, decide_eq_true hle, Bool.and_true, decide_eq_true (show 0 < bhd l f by omega)]
  cases hg : (l[bhd l f - 1]).gone with
  | true => simp only [if_true, Bool.not_true, Bool.false_eq_true, if_false]; rw [show bhd l f - 1 + 1 = bhd l f by omega]
  | false => simp only [Bool.false_eq_true, if_false, Bool.not_false, if_true]; rw [List.drop_eq_getElem_cons hlt]
def putGo (key : ByteArray) (v : Ver) : Bool → Mp → Mp
 | p, [] => if p then [] else [(key, [v])]
 | p, (k, c) :: r => if sEq k key then (k, c ++ [v]) :: putGo key v true r else if !p && sLt key k then (key, [v]) :: (k, c) :: putGo key v true r else (k, c) :: putGo key v p r
theorem putGo_true {key : ByteArray} {v : Ver} : ∀ {M : Mp}, (∀ p ∈ M, p.1 ≠ key) → putGo key v true M = M
 | [], _ => rfl
 | (k, c) :: r, h => by
  have h1 : sEq k key = false := by
   cases h0 : sEq k key with
   | false => rfl
   | true => exact absurd (sEq_iff.1 h0) (h (k, c) (by simp))
  simp only [putGo, h1, Bool.false_eq_true, if_false, Bool.not_true, Bool.false_and]
  rw [putGo_true fun p hp => h p (by simp [hp])]
theorem mPut_lt {k key : ByteArray} {c : List Ver} {r : Mp} {v : Ver} (h : sLt k key = true) : mPut ((k, c) :: r) key v = (k, c) :: mPut r key v := by
 have h1 : lb (ks ((k, c) :: r)) key = lb (ks r) key + 1 := by simp [ks, lb, h]
 have h2 : fnd (ks ((k, c) :: r)) key = fnd (ks r) key := by unfold fnd; rw [h1]; rfl
 have h3 : chainM ((k, c) :: r) key = chainM r key := by unfold chainM Eng.look; rw [h1, h2]; rfl
 unfold mPut put1 ins
 rw [h1, h2, h3]
 cases fnd (ks r) key <;> rfl
theorem putGo_eq {key : ByteArray} {v : Ver} : ∀ {M : Mp}, Rise (ks M) → putGo key v false M = mPut M key v
 | [], _ => rfl
 | (k, c) :: r, hr => by
  have hr' : Rise (ks r) := hr.2
  rcases sLt_total k key with h | h | h
  ·have h1 : sEq k key = false := by
    cases h0 : sEq k key with
    | false => rfl
    | true => exact absurd (sEq_iff.1 h0) (sLt_ne h)
   rw [mPut_lt h]
   simp only [putGo, h1, sLt_asymm h, Bool.false_eq_true, if_false, Bool.not_false, Bool.true_and]
   rw [putGo_eq hr']
  ·subst h
   have hl : lb (ks ((k, c) :: r)) k = 0 := by simp [ks, lb, sLt_irrefl]
   have hf : fnd (ks ((k, c) :: r)) k = true := by unfold fnd; rw [hl]; simp [ks, sEq_self]
   have hc : chainM ((k, c) :: r) k = c := by unfold chainM Eng.look; rw [hl, hf]; rfl
   have e : mPut ((k, c) :: r) k v = (k, c ++ [v]) :: r := by unfold mPut put1; rw [hf, hl, hc]; rfl
   rw [e]
   simp only [putGo, sEq_self, if_true]
   rw [putGo_true fun p hp => ?_]
   exact fun e => by have := hr.1 p.1 (List.mem_map.2 ⟨p, hp, rfl⟩); rw [e, sLt_irrefl] at this; cases this
  ·have h1 : sEq k key = false := by
    cases h0 : sEq k key with
    | false => rfl
    | true => exact absurd (sEq_iff.1 h0).symm (sLt_ne h)
   have hl : lb (ks ((k, c) :: r)) key = 0 := by simp [ks, lb, sLt_asymm h]
   have hf : fnd (ks ((k, c) :: r)) key = false := by unfold fnd; rw [hl]; simp [ks, h1]
   have e : mPut ((k, c) :: r) key v = (key, [v]) :: (k, c) :: r := by unfold mPut ins; rw [hf, hl]; rfl
   rw [e]
   simp only [putGo, h1, h, Bool.false_eq_true, if_false, Bool.not_false, Bool.true_and, if_true]
   rw [putGo_true fun p hp => ?_]
   exact fun e => by have := hr.1 p.1 (List.mem_map.2 ⟨p, hp, rfl⟩); rw [e] at this; rw [sLt_asymm h] at this; cases this
end Go.Proofs.YtcpbibdbahfgaaaGreat
namespace Go.Proofs.YtcpbibdbahfgaaaGreat
open Go.Eng
namespace FRef1
theorem ca_175 : Callable Tryz.prog 175 := ⟨_, _, Tryz.func175, rfl, rfl⟩
theorem ca_139 : Callable Tryz.prog 139 := ⟨_, _, Tryz.func139, rfl, rfl⟩
theorem fl_45_0 : Fld Tryz.prog 45 0 0 := ⟨_, _, 0, Tryz.underlying45, rfl, rfl, by kernel_rfl⟩
theorem one_4 : TyOne Tryz.prog 4 := ⟨⟨_, Tryz.underlying4, rfl⟩, by kernel_rfl⟩
theorem fl_45_2 : Fld Tryz.prog 45 2 2 := ⟨_, _, 0, Tryz.underlying45, rfl, rfl, by kernel_rfl⟩
theorem one_34 : TyOne Tryz.prog 34 := ⟨⟨_, Tryz.underlying34, rfl⟩, by kernel_rfl⟩
theorem fl_45_1 : Fld Tryz.prog 45 1 1 := ⟨_, _, 0, Tryz.underlying45, rfl, rfl, by kernel_rfl⟩
theorem one_9 : TyOne Tryz.prog 9 := ⟨⟨_, Tryz.underlying9, rfl⟩, by kernel_rfl⟩
theorem ca_103 : Callable Tryz.prog 103 := ⟨_, _, Tryz.func103, rfl, rfl⟩
end FRef1
open FRef1
theorem tdiv_nat (a b : Nat) : ((a : Int)).tdiv (b : Int) = ((a / b : Nat) : Int) := by rw [Int.tdiv_eq_ediv_of_nonneg (by omega)]; omega
theorem tmod_nat (a b : Nat) : ((a : Int)).tmod (b : Int) = ((a % b : Nat) : Int) := by rw [Int.tmod_eq_emod_of_nonneg (by omega)]; omega
theorem nan_parts {b : Nat} (h : b ≤ 18446744073709551615) : (decide (((b / 4503599627370496 % 2048 : Nat) : Int) = 2047) && decide ((0 : Int) < ((b % 4503599627370496 : Nat) : Int))) = nanB b := by
 unfold nanB
 rw [Bool.eq_iff_iff]
 simp only [Bool.and_eq_true, decide_eq_true_eq]
 omega
theorem notT0 {b : Bool} (h : (!b) = true) : b = false := by cases b <;> simp_all
theorem notF0 {b : Bool} (h : (!b) = false) : b = true := by cases b <;> simp_all
theorem size0 (a : ByteArray) : a.size = 0 ↔ sEq a ⟨#[]⟩ = true := by
 rw [sEq_iff]
 constructor
 ·intro h
  obtain ⟨⟨l⟩⟩ := a
  cases l with
  | nil => rfl
  | cons x l => simp [ByteArray.size] at h
 ·intro h; rw [h]; rfl
theorem parts_spec {b : Nat} (hb : b ≤ 18446744073709551615) : Does Tryz.prog 175 [.float .f64 b] [] (fun v l => v = .tuple #[.bool (decide ((9223372036854775808 : Int) ≤ (b : Int))), .int .u64 ((b / 4503599627370496 % 2048 : Nat) : Int), .int .u64 ((b % 4503599627370496 : Nat) : Int)] ∧ l = []) := by
 refine spec_of Tryz.func175 rfl Tryz.ntmps175 Tryz.results175 _ (by simp) fun ι F => ?_
 refine vc_seq ?_
 refine vc_region ?_
 iterate 3 refine vp ?_
 refine vc_nil ?_
 refine vc_then ?_
 refine vc_seq ?_
 refine vc_region ?_
 refine vp ?_
 refine vc_y (y_ext (g := Extern.MathFloatBits.float64bits) Tryz.func140 rfl (by kernel_rfl) (by kernel_rfl) (by kernel_rfl) rfl [_] rfl (.int .u64 (b : Int)) (fun w => rfl)) rfl ?_
 refine vp ?_
 refine vc_nil ?_
 refine vc_then ?_
 refine vc_seq ?_
 refine vc_region ?_
 iterate 3 refine vp ?_
 refine vc_y (y_quo ((b / 4503599627370496 : Nat) : Int) rfl rfl (by decide) (by rw [show (4503599627370496 : Int) = ((4503599627370496 : Nat) : Int) from rfl, tdiv_nat]; exact wrapU64 (by omega) (by omega))) rfl ?_
 refine vc_y (y_rem ((b / 4503599627370496 % 2048 : Nat) : Int) rfl rfl (by decide) (tmod_nat _ 2048)) rfl ?_
 refine vp ?_
 refine vc_y (y_rem ((b % 4503599627370496 : Nat) : Int) rfl rfl (by decide) (tmod_nat _ 4503599627370496)) rfl ?_
 iterate 3 refine vp ?_
 refine vc_nil ?_
 refine vc_then ?_
 refine vc_ret ?_
 exact vc_end3 Tryz.results175 rfl rfl rfl _ (ent_pick [] rfl) ⟨rfl, rfl⟩
theorem refNaN_spec {b : Nat} (hb : b ≤ 18446744073709551615) : Does Tryz.prog 139 [.float .f64 b] [] (fun v l => v = .bool (nanB b) ∧ l = []) := by
 refine spec_of Tryz.func139 rfl Tryz.ntmps139 Tryz.results139 _ (by simp) fun ι F => ?_
 have hnp := nan_parts hb
 refine vc_seq ?_
 refine vc_region ?_
 refine vp ?_
 refine vc_nil ?_
 refine vc_then ?_
 refine vc_seq ?_
 refine vc_region ?_
 refine vp ?_
 refine vc_callv ca_175 (us := []) (vs := []) rfl [_] rfl [] rfl (parts_spec hb) rfl ?_
 rintro _ _ ⟨rfl, rfl⟩
 iterate 7 refine vp ?_
 refine vc_nil ?_
 refine vc_then ?_
 refine vc_seq ?_
 refine vc_region ?_
 iterate 3 refine vp ?_
 first | refine vc_splitP 14 rfl (fun c14 => ?_) (fun c14 => ?_) | refine vc_splitN 14 rfl (fun c14 => ?_) (fun c14 => ?_) | refine vc_split 14 rfl (fun c14 => ?_) (fun c14 => ?_)
 ·skip
  refine vc_guardT 14 rfl rfl ?_
  refine vp ?_
  refine vc_guardT 14 rfl rfl ?_
  iterate 3 refine vp ?_
  refine vc_nil ?_
  refine vc_then ?_
  refine vc_ret ?_
  exact vc_end1 Tryz.results139 rfl _ (ent_pick [] rfl) ⟨by rw [← hnp]; first | (rw [decide_eq_true c14, Bool.true_and]) | (rw [decide_eq_false c14]; rfl), rfl⟩
 ·skip
  refine vc_guardF 14 rfl rfl rfl rfl ?_
  refine vc_guardF 14 rfl rfl rfl rfl ?_
  refine vp ?_
  refine vp ?_
  refine vc_nil ?_
  refine vc_then ?_
  refine vc_ret ?_
  exact vc_end1 Tryz.results139 rfl _ (ent_pick [] rfl) ⟨by rw [← hnp]; first | (rw [decide_eq_true c14, Bool.true_and]) | (rw [decide_eq_false c14]; rfl), rfl⟩
theorem refBits_spec {b : Nat} (hb : b ≤ 18446744073709551615) : Does Tryz.prog 103 [.float .f64 b] [] (fun v l => v = .int .u64 ((canonB b : Nat) : Int) ∧ l = []) := by
 refine spec_of Tryz.func103 rfl Tryz.ntmps103 Tryz.results103 _ (by simp) fun ι F => ?_
 refine vc_seq ?_
 refine vc_region ?_
 refine vp ?_
 refine vc_nil ?_
 refine vc_then ?_
 refine vc_seq ?_
 refine vc_seq ?_
 refine vc_region ?_
 refine vp ?_
 refine vc_callv ca_139 (us := []) (vs := []) rfl [_] rfl [] rfl (refNaN_spec hb) rfl ?_
 rintro _ _ ⟨rfl, rfl⟩
 refine vc_nil ?_
 refine vc_then ?_
 first | refine vc_condP rfl (fun c4 => ?_) (fun c4 => ?_) | refine vc_condN rfl (fun c4 => ?_) (fun c4 => ?_) | refine vc_cond rfl (fun c4 => ?_) (fun c4 => ?_)
 ·skip
  refine vc_seq ?_
  refine vc_region ?_
  refine vp ?_
  refine vc_nil ?_
  refine vc_then ?_
  refine vc_ret ?_
  refine vc_thenRet ?_
  exact vc_end1 Tryz.results103 rfl _ (ent_pick [] rfl) ⟨by simp [canonB, nanB, c4], rfl⟩
 ·skip
  refine vc_skip ?_
  refine vc_then ?_
  refine vc_seq ?_
  refine vc_region ?_
  refine vp ?_
  refine vc_y (y_ext (g := Extern.MathFloatBits.float64bits) Tryz.func140 rfl (by kernel_rfl) (by kernel_rfl) (by kernel_rfl) rfl [_] rfl (.int .u64 (b : Int)) (fun w => rfl)) rfl ?_
  refine vp ?_
  refine vc_nil ?_
  refine vc_then ?_
  refine vc_ret ?_
  exact vc_end1 Tryz.results103 rfl _ (ent_pick [] rfl) ⟨by simp [canonB, nanB, c4], rfl⟩
theorem refVRight_spec (x : Val) (hx : 0 ≤ x.bits ∧ x.bits ≤ 18446744073709551615) : Does Tryz.prog 41 [.agg #[.bool x.num, .string x.text, .int .u64 x.bits]] [] (fun v l => v = .bool (valRight x) ∧ l = []) := by
 refine spec_of Tryz.func41 rfl Tryz.ntmps41 Tryz.results41 _ (by simp) fun ι F => ?_
 refine vc_seq ?_
 refine vc_region ?_
 refine vc_box [_, _, _] rfl rfl rfl (fun b1 => ?_)
 refine vp ?_
 refine vc_nil ?_
 refine vc_then ?_
 refine vc_seq ?_
 refine vc_seq ?_
 refine vc_region ?_
 refine vc_y (y_fieldP fl_45_0 0 rfl rfl) rfl ?_
 refine vc_y (y_load1 0 rfl one_4 rfl (Pts.vis rfl)) rfl ?_
 refine vp ?_
 refine vc_nil ?_
 refine vc_then ?_
 first | refine vc_condP rfl (fun c5 => ?_) (fun c5 => ?_) | refine vc_condN rfl (fun c5 => ?_) (fun c5 => ?_) | refine vc_cond rfl (fun c5 => ?_) (fun c5 => ?_)
 ·skip
  have hn : x.num = false := notT0 c5
  refine vc_seq ?_
  refine vc_region ?_
  refine vc_y (y_fieldP fl_45_2 2 rfl rfl) rfl ?_
  refine vc_y (y_load1 0 rfl one_34 rfl (Pts.vis rfl)) rfl ?_
  refine vp ?_
  refine vp ?_
  first | refine vc_splitP 9 rfl (fun c9 => ?_) (fun c9 => ?_) | refine vc_splitN 9 rfl (fun c9 => ?_) (fun c9 => ?_) | refine vc_split 9 rfl (fun c9 => ?_) (fun c9 => ?_)
  ·skip
   refine vc_guardT 9 rfl rfl ?_
   refine vc_y (y_fieldP fl_45_1 1 rfl rfl) rfl ?_
   refine vc_guardT 9 rfl rfl ?_
   refine vc_y (y_load1 0 rfl one_9 rfl (Pts.vis rfl)) rfl ?_
   refine vc_guardT 9 rfl rfl ?_
   refine vc_y (y_strLen Tryz.underlying9 rfl) rfl ?_
   refine vc_guardT 9 rfl rfl ?_
   iterate 3 refine vp ?_
   refine vc_nil ?_
   refine vc_then ?_
   refine vc_ret ?_
   refine vc_thenRet ?_
   exact vc_end1 Tryz.results41 rfl _ (ent_pick [] rfl) ⟨by simp [valRight, hn, *], rfl⟩
  ·skip
   refine vc_guardF 9 rfl rfl rfl rfl ?_
   refine vc_guardF 9 rfl rfl rfl rfl ?_
   refine vc_guardF 9 rfl rfl rfl rfl ?_
   refine vc_guardF 9 rfl rfl rfl rfl ?_
   refine vp ?_
   refine vp ?_
   refine vc_nil ?_
   refine vc_then ?_
   refine vc_ret ?_
   refine vc_thenRet ?_
   exact vc_end1 Tryz.results41 rfl _ (ent_pick [] rfl) ⟨by simp [valRight, hn, *], rfl⟩
 ·skip
  have hn : x.num = true := notF0 c5
  refine vc_skip ?_
  refine vc_then ?_
  refine vc_seq ?_
  refine vc_draw (by kernel_rfl) _ none [0] rfl ?_
  refine tp 0 rfl (by exact y_fieldP fl_45_1 1 rfl rfl) ?_
  refine tk 1 rfl (by exact y_load1 0 rfl one_9 rfl (Pts.vis rfl)) ?_
  refine tp 2 rfl (by exact y_strLen Tryz.underlying9 rfl) ?_
  refine tpp 3 ?_
  refine tpp 4 ?_
  first | refine va_splitP 19 rfl (fun c19 => ?_) (fun c19 => ?_) | refine va_splitN 19 rfl (fun c19 => ?_) (fun c19 => ?_) | refine va_split 19 rfl (fun c19 => ?_) (fun c19 => ?_)
  ·skip
   have ht : sEq x.text ⟨#[]⟩ = true := (size0 _).1 (by omega)
   refine tg 5 19 rfl (by exact y_fieldP fl_45_2 2 rfl rfl) ?_
   refine tkg 6 19 rfl (by exact y_load1 0 rfl one_34 rfl (Pts.vis rfl)) ?_
   refine tg 9 19 rfl (by exact y_fieldP fl_45_2 2 rfl rfl) ?_
   refine tkg 10 19 rfl (by exact y_load1 0 rfl one_34 rfl (Pts.vis rfl)) ?_
   refine va_ready [7] (by kernel_rfl) rfl ?_
   refine vo_cons rfl (fun hC0 => ?_) ?_
   ·skip
    refine vc_guardT 19 rfl rfl ?_
    refine vc_y (y_ext (g := Extern.MathFloatBits.float64frombits) Tryz.func104 rfl (by kernel_rfl) (by kernel_rfl) (by kernel_rfl) rfl [_] rfl (.float .f64 x.bits.toNat) (fun w => rfl)) rfl ?_
    refine vc_nil ?_
    refine vc_then ?_
    refine va_kept hC0 [0] rfl ?_
    clear hC0
    refine va_ready [8] (by kernel_rfl) rfl ?_
    refine vo_cons rfl (fun hC0 => ?_) ?_
    ·skip
     refine vc_guardT 19 rfl rfl ?_
     refine vc_callv ca_103 (us := []) (vs := []) rfl [_] rfl [] rfl (refBits_spec (b := x.bits.toNat) (by omega)) rfl ?_
     rintro _ _ ⟨rfl, rfl⟩
     refine vc_nil ?_
     refine vc_then ?_
     refine va_kept hC0 [0] rfl ?_
     clear hC0
     refine tgp 11 19 ?_
     refine tpp 12 ?_
     refine tpp 13 ?_
     refine va_done (by kernel_rfl) ?_
     refine vc_then ?_
     refine vc_ret ?_
     exact vc_end1 Tryz.results41 rfl _ (ent_pick [] rfl) ⟨by simp [valRight, hn, *], rfl⟩
    exact vo_nil
   exact vo_nil
  ·skip
   have ht : sEq x.text ⟨#[]⟩ = false := by
    cases h0 : sEq x.text ⟨#[]⟩ with
    | false => rfl
    | true => exact absurd ((size0 _).2 h0) (by omega)
   refine sk 5 19 ?_
   refine sk 6 19 ?_
   refine sk 7 19 ?_
   refine sk 8 19 ?_
   refine sk 9 19 ?_
   refine sk 10 19 ?_
   refine sk 11 19 ?_
   refine tpp 12 ?_
   refine tpp 13 ?_
   refine va_done (by kernel_rfl) ?_
   refine vc_then ?_
   refine vc_ret ?_
   exact vc_end1 Tryz.results41 rfl _ (ent_pick [] rfl) ⟨by simp [valRight, hn, *], rfl⟩
end Go.Proofs.YtcpbibdbahfgaaaGreat
namespace Go.Proofs.YtcpbibdbahfgaaaGreat
open Go.Eng
namespace FRef2
theorem ca_175 : Callable Tryz.prog 175 := ⟨_, _, Tryz.func175, rfl, rfl⟩
theorem ca_139 : Callable Tryz.prog 139 := ⟨_, _, Tryz.func139, rfl, rfl⟩
theorem ca_228 : Callable Tryz.prog 228 := ⟨_, _, Tryz.func228, rfl, rfl⟩
theorem sl_107 : TySl Tryz.prog 107 5 1 := ⟨Tryz.underlying107, by kernel_rfl⟩
theorem sz_5 : (Tryz.prog.info? 5).map (·.size) = some 1 := by kernel_rfl
theorem fl_45_0 : Fld Tryz.prog 45 0 0 := ⟨_, _, 0, Tryz.underlying45, rfl, rfl, by kernel_rfl⟩
theorem one_4 : TyOne Tryz.prog 4 := ⟨⟨_, Tryz.underlying4, rfl⟩, by kernel_rfl⟩
theorem fl_45_2 : Fld Tryz.prog 45 2 2 := ⟨_, _, 0, Tryz.underlying45, rfl, rfl, by kernel_rfl⟩
theorem one_34 : TyOne Tryz.prog 34 := ⟨⟨_, Tryz.underlying34, rfl⟩, by kernel_rfl⟩
theorem ze_5 : (Tryz.prog.info? 5).map (·.zero) = some (some (.int .u8 0)) := by kernel_rfl
theorem bs_107_1 (v0 : Value) (h0 : v0.cells = #[v0]) (w : World) : (Instr.buildSlice 107 1 #[(0, v0)]).run Tryz.prog w = .ok (.slice (some ⟨w.heap.size, 0, none⟩) 1 1) { w with heap := w.heap.push (.cells #[v0] 5 (0, 0)) } :=
 Go.Eng.run_buildSlice Tryz.underlying107 sz_5 ze_5 (by decide) (by rw [show Array.range (1 * 1) = #[0] from by decide]; simp [Instr.fill, cells_agg, h0]) w
theorem ca_199 : Callable Tryz.prog 199 := ⟨_, _, Tryz.func199, rfl, rfl⟩
theorem fl_45_1 : Fld Tryz.prog 45 1 1 := ⟨_, _, 0, Tryz.underlying45, rfl, rfl, by kernel_rfl⟩
theorem one_9 : TyOne Tryz.prog 9 := ⟨⟨_, Tryz.underlying9, rfl⟩, by kernel_rfl⟩
theorem sl_138 : TySl Tryz.prog 138 135 5 := ⟨Tryz.underlying138, by kernel_rfl⟩
theorem fl_135_1 : Fld Tryz.prog 135 1 1 := ⟨_, _, 0, Tryz.underlying135, rfl, rfl, by kernel_rfl⟩
theorem fl_135_2 : Fld Tryz.prog 135 2 2 := ⟨_, _, 2, Tryz.underlying135, rfl, rfl, by kernel_rfl⟩
theorem ag_45 : TyAgg Tryz.prog 45 3 := ⟨⟨_, Tryz.underlying45, rfl⟩, by kernel_rfl⟩
theorem ca_172 : Callable Tryz.prog 172 := ⟨_, _, Tryz.func172, rfl, rfl⟩
theorem ze_135 : (Tryz.prog.info? 135).map (·.zero) = some (some (.agg #[.int .i64 0, .bool false, .bool false, .string ⟨#[]⟩, .int .u64 0])) := by kernel_rfl
theorem bu_135_n   (w : World) : (Instr.build 135 #[]).run Tryz.prog w = .ok (.agg #[.int .i64 0, .bool false, .bool false, .string ⟨#[]⟩, .int .u64 0]) w := by
 have hz := @ze_135
 exact Go.Eng.run_build (pl := [(0, 1), (1, 1), (2, 3)]) hz Tryz.underlying135 (by kernel_rfl) rfl (by simp [Instr.fill, cells_agg]) w
theorem sz_135 : (Tryz.prog.info? 135).map (·.size) = some 5 := by kernel_rfl
theorem fl_135_0 : Fld Tryz.prog 135 0 0 := ⟨_, _, 0, Tryz.underlying135, rfl, rfl, by kernel_rfl⟩
theorem one_3 : TyOne Tryz.prog 3 := ⟨⟨_, Tryz.underlying3, rfl⟩, by kernel_rfl⟩
theorem ag_135 : TyAgg Tryz.prog 135 5 := ⟨⟨_, Tryz.underlying135, rfl⟩, by kernel_rfl⟩
theorem bs_138_0   (w : World) : (Instr.buildSlice 138 0 #[]).run Tryz.prog w = .ok (.slice (some ⟨w.heap.size, 0, none⟩) 0 0) { w with heap := w.heap.push (.cells #[] 135 (0, 0)) } :=
 Go.Eng.run_buildSlice Tryz.underlying138 sz_135 ze_135 (by decide) (by rw [show Array.range (0 * 5) = #[] from by decide]; simp [Instr.fill, cells_agg]) w
theorem bs_138_1 (v0_0 v0_1 v0_2 v0_3 v0_4 : Value)  (w : World) : (Instr.buildSlice 138 1 #[(0, .agg #[v0_0, v0_1, v0_2, v0_3, v0_4])]).run Tryz.prog w = .ok (.slice (some ⟨w.heap.size, 0, none⟩) 1 1) { w with heap := w.heap.push (.cells #[v0_0, v0_1, v0_2, v0_3, v0_4] 135 (0, 0)) } :=
 Go.Eng.run_buildSlice Tryz.underlying138 sz_135 ze_135 (by decide) (by rw [show Array.range (1 * 5) = #[0, 1, 2, 3, 4] from by decide]; simp [Instr.fill, cells_agg]) w
theorem el_138_eVer : TyEl Tryz.prog 138 eVer 48 := ⟨Tryz.underlying138, .agg #[.int .i64 0, .bool false, .bool false, .string ⟨#[]⟩, .int .u64 0], by kernel_rfl, rfl⟩
end FRef2
open FRef2
theorem parts_any {b : Nat} : Does Tryz.prog 175 [.float .f64 b] [] (fun v l => ∃ p q r, v = .tuple #[.bool p, .int .u64 q, .int .u64 r] ∧ l = []) := by
 refine spec_of Tryz.func175 rfl Tryz.ntmps175 Tryz.results175 _ (by simp) fun ι F => ?_
 refine vc_seq ?_
 refine vc_region ?_
 iterate 3 refine vp ?_
 refine vc_nil ?_
 refine vc_then ?_
 refine vc_seq ?_
 refine vc_region ?_
 refine vp ?_
 refine vc_y (y_ext (g := Extern.MathFloatBits.float64bits) Tryz.func140 rfl (by kernel_rfl) (by kernel_rfl) (by kernel_rfl) rfl [_] rfl (.int .u64 (b : Int)) (fun w => rfl)) rfl ?_
 refine vp ?_
 refine vc_nil ?_
 refine vc_then ?_
 refine vc_seq ?_
 refine vc_region ?_
 iterate 3 refine vp ?_
 refine vc_y (y_quo _ rfl rfl (by decide) rfl) rfl ?_
 refine vc_y (y_rem _ rfl rfl (by decide) rfl) rfl ?_
 refine vp ?_
 refine vc_y (y_rem _ rfl rfl (by decide) rfl) rfl ?_
 iterate 3 refine vp ?_
 refine vc_nil ?_
 refine vc_then ?_
 refine vc_ret ?_
 exact vc_end3 Tryz.results175 rfl rfl rfl _ (ent_pick [] rfl) ⟨_, _, _, rfl, rfl⟩
theorem refNaN_any {b : Nat} : Does Tryz.prog 139 [.float .f64 b] [] (fun v l => ∃ t, v = .bool t ∧ l = []) := by
 refine spec_of Tryz.func139 rfl Tryz.ntmps139 Tryz.results139 _ (by simp) fun ι F => ?_
 refine vc_seq ?_
 refine vc_region ?_
 refine vp ?_
 refine vc_nil ?_
 refine vc_then ?_
 refine vc_seq ?_
 refine vc_region ?_
 refine vp ?_
 refine vc_callv ca_175 (us := []) (vs := []) rfl [_] rfl [] rfl (parts_any) rfl ?_
 rintro _ _ ⟨p, q, r, rfl, rfl⟩
 iterate 7 refine vp ?_
 refine vc_nil ?_
 refine vc_then ?_
 refine vc_seq ?_
 refine vc_region ?_
 iterate 3 refine vp ?_
 first | refine vc_splitP 14 rfl (fun c14 => ?_) (fun c14 => ?_) | refine vc_splitN 14 rfl (fun c14 => ?_) (fun c14 => ?_) | refine vc_split 14 rfl (fun c14 => ?_) (fun c14 => ?_)
 ·skip
  refine vc_guardT 14 rfl rfl ?_
  refine vp ?_
  refine vc_guardT 14 rfl rfl ?_
  iterate 3 refine vp ?_
  refine vc_nil ?_
  refine vc_then ?_
  refine vc_ret ?_
  exact vc_end1 Tryz.results139 rfl _ (ent_pick [] rfl) ⟨_, rfl, rfl⟩
 ·skip
  refine vc_guardF 14 rfl rfl rfl rfl ?_
  refine vc_guardF 14 rfl rfl rfl rfl ?_
  refine vp ?_
  refine vp ?_
  refine vc_nil ?_
  refine vc_then ?_
  refine vc_ret ?_
  exact vc_end1 Tryz.results139 rfl _ (ent_pick [] rfl) ⟨_, rfl, rfl⟩
theorem refPlace_any {b : Nat} : Does Tryz.prog 228 [.float .f64 b] [] (fun v l => ∃ z, v = .int .u64 z ∧ l = []) := by
 refine spec_of Tryz.func228 rfl Tryz.ntmps228 Tryz.results228 _ (by simp) fun ι F => ?_
 refine vc_seq ?_
 refine vc_region ?_
 refine vp ?_
 refine vc_nil ?_
 refine vc_then ?_
 refine vc_seq ?_
 refine vc_seq ?_
 refine vc_region ?_
 refine vp ?_
 refine vc_callv ca_139 (us := []) (vs := []) rfl [_] rfl [] rfl (refNaN_any) rfl ?_
 rintro _ _ ⟨t, rfl, rfl⟩
 refine vc_nil ?_
 refine vc_then ?_
 first | refine vc_condP rfl (fun c8 => ?_) (fun c8 => ?_) | refine vc_condN rfl (fun c8 => ?_) (fun c8 => ?_) | refine vc_cond rfl (fun c8 => ?_) (fun c8 => ?_)
 ·skip
  refine vc_seq ?_
  refine vc_region ?_
  refine vp ?_
  refine vc_nil ?_
  refine vc_then ?_
  refine vc_ret ?_
  refine vc_thenRet ?_
  exact vc_end1 Tryz.results228 rfl _ (ent_pick [] rfl) ⟨_, rfl, rfl⟩
 ·skip
  refine vc_skip ?_
  refine vc_then ?_
  refine vc_seq ?_
  refine vc_region ?_
  refine vp ?_
  refine vc_callv ca_175 (us := []) (vs := []) rfl [_] rfl [] rfl (parts_any) rfl ?_
  rintro _ _ ⟨p, q, r, rfl, rfl⟩
  iterate 7 refine vp ?_
  refine vc_nil ?_
  refine vc_then ?_
  refine vc_seq ?_
  refine vc_region ?_
  iterate 5 refine vp ?_
  refine vc_nil ?_
  refine vc_then ?_
  refine vc_seq ?_
  refine vc_seq ?_
  refine vc_region ?_
  refine vp ?_
  refine vc_nil ?_
  refine vc_then ?_
  first | refine vc_condP rfl (fun c19 => ?_) (fun c19 => ?_) | refine vc_condN rfl (fun c19 => ?_) (fun c19 => ?_) | refine vc_cond rfl (fun c19 => ?_) (fun c19 => ?_)
  ·skip
   refine vc_seq ?_
   refine vc_region ?_
   iterate 3 refine vp ?_
   refine vc_nil ?_
   refine vc_then ?_
   refine vc_ret ?_
   refine vc_thenRet ?_
   exact vc_end1 Tryz.results228 rfl _ (ent_pick [] rfl) ⟨_, rfl, rfl⟩
  ·skip
   refine vc_skip ?_
   refine vc_then ?_
   refine vc_seq ?_
   refine vc_region ?_
   iterate 3 refine vp ?_
   refine vc_nil ?_
   refine vc_then ?_
   refine vc_ret ?_
   exact vc_end1 Tryz.results228 rfl _ (ent_pick [] rfl) ⟨_, rfl, rfl⟩
theorem refKey_any {b : Nat} : Does Tryz.prog 199 [.float .f64 b] [] (fun v l => ∃ s : ByteArray, s.size = 8 ∧ v = .string s ∧ l = []) := by
 refine spec_of Tryz.func199 rfl Tryz.ntmps199 Tryz.results199 _ (by simp) fun ι F => ?_
 refine vc_seq ?_
 refine vc_region ?_
 refine vp ?_
 refine vc_nil ?_
 refine vc_then ?_
 refine vc_seq ?_
 refine vc_region ?_
 refine vp ?_
 refine vc_callv ca_228 (us := []) (vs := []) rfl [_] rfl [] rfl (refPlace_any) rfl ?_
 rintro _ _ ⟨z, rfl, rfl⟩
 refine vp ?_
 refine vc_nil ?_
 refine vc_then ?_
 refine vc_seq ?_
 refine vc_region ?_
 refine vc_makeSlice (E := eU8) 8 (.int .u8 0) 1 Tryz.underlying107 (by kernel_rfl) rfl (z := 0) rfl rfl rfl (by decide) rfl (fun h8 => ?_)
 refine vp ?_
 refine vc_nil ?_
 refine vc_then ?_
 refine vc_seq ?_
 refine vc_seq ?_
 refine vc_region ?_
 refine vp ?_
 refine vc_nil ?_
 refine vc_then ?_
 refine vc_block ?_
 refine vc_loop (α := Int × List Int × Int) (fun xq_ => match xq_ with | (j, ys, z) => [(3, .int .u64 z), (4, h8.v), (5, .int .i64 j)]) (fun xq_ => match xq_ with | (j, ys, z) => [Sl eU8 h8 ys]) (fun xq_ => match xq_ with | (j, ys, z) => (j + 1).toNat) (fun xq_ => match xq_ with | (j, ys, z) => -1 ≤ j ∧ j ≤ 7 ∧ ys.length = 8) (7, List.replicate 8 0, z) ⟨by omega, by omega, by simp⟩ ⟨rfl, rfl, rfl, trivial⟩ (ent_pick [0] rfl) ?_
 rintro ⟨j, ys, z⟩ ⟨j1, j2, hys⟩
 show VC _ _ _ _ [(3, .int .u64 z), (4, h8.v), (5, .int .i64 j)] ([Sl eU8 h8 ys])
 refine vc_seq ?_
 refine vc_seq ?_
 refine vc_region ?_
 refine vp ?_
 refine vp ?_
 refine vc_nil ?_
 refine vc_then ?_
 first | refine vc_condP rfl (fun c10 => ?_) (fun c10 => ?_) | refine vc_condN rfl (fun c10 => ?_) (fun c10 => ?_) | refine vc_cond rfl (fun c10 => ?_) (fun c10 => ?_)
 ·skip
  refine vc_skip ?_
  refine vc_then ?_
  refine vc_seq ?_
  refine vc_block ?_
  refine vc_seq ?_
  refine vc_region ?_
  iterate 3 refine vp ?_
  refine vc_y (y_rem _ rfl rfl (by decide) rfl) rfl ?_
  refine vc_y (y_conv _ Tryz.underlying34 Tryz.underlying5 rfl rfl) rfl ?_
  refine vc_y (y_elem 0 rfl (Sl.vis) j.toNat (by omega) (by rw [hys]; omega) sl_107 rfl rfl) rfl ?_
  refine vc_storeE 0 rfl [_] _ rfl rfl rfl sz_5 rfl (List.getElem?_eq_getElem (by omega)) (Nat.le_of_ble_eq_true rfl) rfl ?_
  refine vc_nil ?_
  refine vc_then ?_
  refine vc_region ?_
  refine vp ?_
  refine vc_y (y_quo _ rfl rfl (by decide) rfl) rfl ?_
  refine vp ?_
  refine vc_nil ?_
  refine vc_inNormal ?_
  refine vc_then ?_
  refine vc_region ?_
  refine vp ?_
  first | refine vc_y (y_arith _ rfl (wrapNsub (by omega))) rfl ?_ | refine vc_y (y_arith _ rfl (wrap64 (by omega) (by omega))) rfl ?_ | refine vp ?_
  refine vp ?_
  refine vc_nil ?_
  refine vc_then ?_
  exact vc_again (x := (j, ys, z)) (j - 1, _, _) ⟨by omega, by omega, by simp [hys]⟩ (by show (j - 1 + 1).toNat < (j + 1).toNat; omega) ⟨rfl, rfl, rfl, trivial⟩ (ent_pick [0] rfl)
 ·skip
  refine vc_exit ?_
  refine vc_thenExit ?_
  refine vc_thenExit ?_
  refine vc_inExit ?_
  refine vc_then ?_
  refine vc_seq ?_
  refine vc_region ?_
  refine vc_see 0 rfl (Sl.vis.imp fun w r => r.adr) (fun hadr => ?_)
  have ha : h8.a = some ⟨h8.blk, h8.off, none⟩ := hadr.resolve_right (by rintro ⟨e, _⟩; rw [e] at hys; cases hys)
  refine vp ?_
  refine vc_y (y_bytesStr 0 rfl (E := eU8) (fun _ => rfl) (h := h8) Sl.vis ha Tryz.underlying107 Tryz.underlying5 Tryz.underlying9 rfl) rfl ?_
  refine vp ?_
  refine vc_nil ?_
  refine vc_then ?_
  refine vc_ret ?_
  exact vc_end1 Tryz.results199 rfl _ (ent_pick [] rfl) ⟨_, by rw [strOfNums_size]; exact hys, rfl, rfl⟩
theorem refPack_spec (x : Val) (hv : valRight x = true) : Does Tryz.prog 172 [.agg #[.bool x.num, .string x.text, .int .u64 x.bits]] [] (fun v l => ∃ s : ByteArray, (s.size : Int) = vWeight x ∧ v = .string s ∧ l = []) := by
 refine spec_of Tryz.func172 rfl Tryz.ntmps172 Tryz.results172 _ (by simp) fun ι F => ?_
 refine vc_seq ?_
 refine vc_region ?_
 refine vc_box [_, _, _] rfl rfl rfl (fun b1 => ?_)
 refine vp ?_
 refine vc_nil ?_
 refine vc_then ?_
 refine vc_seq ?_
 refine vc_seq ?_
 refine vc_region ?_
 refine vc_y (y_fieldP fl_45_0 0 rfl rfl) rfl ?_
 refine vc_y (y_load1 0 rfl one_4 rfl (Pts.vis rfl)) rfl ?_
 refine vc_nil ?_
 refine vc_then ?_
 first | refine vc_condP rfl (fun c4 => ?_) (fun c4 => ?_) | refine vc_condN rfl (fun c4 => ?_) (fun c4 => ?_) | refine vc_cond rfl (fun c4 => ?_) (fun c4 => ?_)
 ·skip
  have hn : x.num = true := c4
  refine vc_seq ?_
  refine vc_draw (by kernel_rfl) _ none [0] rfl ?_
  refine tp 2 rfl (by exact y_fieldP fl_45_2 2 rfl rfl) ?_
  refine tk 3 rfl (by exact y_load1 0 rfl one_34 rfl (Pts.vis rfl)) ?_
  refine va_ready [0, 4] (by kernel_rfl) rfl ?_
  refine vo_cons rfl (fun hC0 => ?_) ?_
  ·skip
   refine vc_buildSlice (E := eU8) [(0, _)] [1] rfl rfl (bs_107_1 _ rfl) rfl (fun h5 => ?_)
   refine vc_nil ?_
   refine vc_then ?_
   refine va_kept hC0 [1] rfl ?_
   clear hC0
   refine va_ready [1, 4] (by kernel_rfl) rfl ?_
   refine vo_cons rfl (fun hC0 => ?_) ?_
   ·skip
    refine vc_see 0 rfl (Sl.vis.imp fun w r => r.adr) (fun hadr => ?_)
    have ha5 : h5.a = some ⟨h5.blk, h5.off, none⟩ := hadr.resolve_right (by rintro ⟨e, _⟩; cases e)
    refine vc_y (y_bytesStr 0 rfl (E := eU8) (fun _ => rfl) (h := h5) Sl.vis ha5 Tryz.underlying107 Tryz.underlying5 Tryz.underlying9 rfl) rfl ?_
    refine vc_nil ?_
    refine vc_then ?_
    refine va_kept hC0 [1] rfl ?_
    clear hC0
    refine va_ready [4] (by kernel_rfl) rfl ?_
    refine vo_cons rfl (fun hC0 => ?_) ?_
    ·skip
     refine vc_y (y_ext (g := Extern.MathFloatBits.float64frombits) Tryz.func104 rfl (by kernel_rfl) (by kernel_rfl) (by kernel_rfl) rfl [_] rfl (.float .f64 x.bits.toNat) (fun w => rfl)) rfl ?_
     refine vc_nil ?_
     refine vc_then ?_
     refine va_kept hC0 [1] rfl ?_
     clear hC0
     refine va_ready [5] (by kernel_rfl) rfl ?_
     refine vo_cons rfl (fun hC0 => ?_) ?_
     ·skip
      refine vc_callv ca_199 (us := []) (vs := []) rfl [_] rfl [] rfl (refKey_any (b := x.bits.toNat)) rfl ?_
      rintro _ _ ⟨s, hs, rfl, rfl⟩
      refine vc_nil ?_
      refine vc_then ?_
      refine va_kept hC0 [1] rfl ?_
      clear hC0
      refine tp 6 rfl (by exact y_cat rfl rfl (by rw [hs, strOfNums_size]; simp)) ?_
      refine tpp 7 ?_
      refine va_done (by kernel_rfl) ?_
      refine vc_then ?_
      refine vc_ret ?_
      refine vc_thenRet ?_
      exact vc_end1 Tryz.results172 rfl _ (ent_pick [] rfl) ⟨_, by first | (rw [size_cat, hs, strOfNums_size]; simp [vWeight, hv, hn]; done) | (rw [size_cat, strOfNums_size]; simp [vWeight, hv, hn]; try omega), rfl, rfl⟩
     exact vo_nil
    exact vo_nil
   refine vo_cons rfl (fun hC0 => ?_) ?_
   ·skip
    refine vc_y (y_ext (g := Extern.MathFloatBits.float64frombits) Tryz.func104 rfl (by kernel_rfl) (by kernel_rfl) (by kernel_rfl) rfl [_] rfl (.float .f64 x.bits.toNat) (fun w => rfl)) rfl ?_
    refine vc_nil ?_
    refine vc_then ?_
    refine va_kept hC0 [1] rfl ?_
    clear hC0
    refine va_ready [1, 5] (by kernel_rfl) rfl ?_
    refine vo_cons rfl (fun hC0 => ?_) ?_
    ·skip
     refine vc_see 0 rfl (Sl.vis.imp fun w r => r.adr) (fun hadr => ?_)
     have ha5 : h5.a = some ⟨h5.blk, h5.off, none⟩ := hadr.resolve_right (by rintro ⟨e, _⟩; cases e)
     refine vc_y (y_bytesStr 0 rfl (E := eU8) (fun _ => rfl) (h := h5) Sl.vis ha5 Tryz.underlying107 Tryz.underlying5 Tryz.underlying9 rfl) rfl ?_
     refine vc_nil ?_
     refine vc_then ?_
     refine va_kept hC0 [1] rfl ?_
     clear hC0
     refine va_ready [5] (by kernel_rfl) rfl ?_
     refine vo_cons rfl (fun hC0 => ?_) ?_
     ·skip
      refine vc_callv ca_199 (us := []) (vs := []) rfl [_] rfl [] rfl (refKey_any (b := x.bits.toNat)) rfl ?_
      rintro _ _ ⟨s, hs, rfl, rfl⟩
      refine vc_nil ?_
      refine vc_then ?_
      refine va_kept hC0 [1] rfl ?_
      clear hC0
      refine tp 6 rfl (by exact y_cat rfl rfl (by rw [hs, strOfNums_size]; simp)) ?_
      refine tpp 7 ?_
      refine va_done (by kernel_rfl) ?_
      refine vc_then ?_
      refine vc_ret ?_
      refine vc_thenRet ?_
      exact vc_end1 Tryz.results172 rfl _ (ent_pick [] rfl) ⟨_, by first | (rw [size_cat, hs, strOfNums_size]; simp [vWeight, hv, hn]; done) | (rw [size_cat, strOfNums_size]; simp [vWeight, hv, hn]; try omega), rfl, rfl⟩
     exact vo_nil
    refine vo_cons rfl (fun hC0 => ?_) ?_
    ·skip
     refine vc_callv ca_199 (us := []) (vs := []) rfl [_] rfl [] rfl (refKey_any (b := x.bits.toNat)) rfl ?_
     rintro _ _ ⟨s, hs, rfl, rfl⟩
     refine vc_nil ?_
     refine vc_then ?_
     refine va_kept hC0 [1] rfl ?_
     clear hC0
     refine va_ready [1] (by kernel_rfl) rfl ?_
     refine vo_cons rfl (fun hC0 => ?_) ?_
     ·skip
      refine vc_see 0 rfl (Sl.vis.imp fun w r => r.adr) (fun hadr => ?_)
      have ha5 : h5.a = some ⟨h5.blk, h5.off, none⟩ := hadr.resolve_right (by rintro ⟨e, _⟩; cases e)
      refine vc_y (y_bytesStr 0 rfl (E := eU8) (fun _ => rfl) (h := h5) Sl.vis ha5 Tryz.underlying107 Tryz.underlying5 Tryz.underlying9 rfl) rfl ?_
      refine vc_nil ?_
      refine vc_then ?_
      refine va_kept hC0 [1] rfl ?_
      clear hC0
      refine tp 6 rfl (by exact y_cat rfl rfl (by rw [hs, strOfNums_size]; simp)) ?_
      refine tpp 7 ?_
      refine va_done (by kernel_rfl) ?_
      refine vc_then ?_
      refine vc_ret ?_
      refine vc_thenRet ?_
      exact vc_end1 Tryz.results172 rfl _ (ent_pick [] rfl) ⟨_, by first | (rw [size_cat, hs, strOfNums_size]; simp [vWeight, hv, hn]; done) | (rw [size_cat, strOfNums_size]; simp [vWeight, hv, hn]; try omega), rfl, rfl⟩
     exact vo_nil
    exact vo_nil
   exact vo_nil
  refine vo_cons rfl (fun hC0 => ?_) ?_
  ·skip
   refine vc_y (y_ext (g := Extern.MathFloatBits.float64frombits) Tryz.func104 rfl (by kernel_rfl) (by kernel_rfl) (by kernel_rfl) rfl [_] rfl (.float .f64 x.bits.toNat) (fun w => rfl)) rfl ?_
   refine vc_nil ?_
   refine vc_then ?_
   refine va_kept hC0 [0] rfl ?_
   clear hC0
   refine va_ready [0, 5] (by kernel_rfl) rfl ?_
   refine vo_cons rfl (fun hC0 => ?_) ?_
   ·skip
    refine vc_buildSlice (E := eU8) [(0, _)] [1] rfl rfl (bs_107_1 _ rfl) rfl (fun h5 => ?_)
    refine vc_nil ?_
    refine vc_then ?_
    refine va_kept hC0 [1] rfl ?_
    clear hC0
    refine va_ready [1, 5] (by kernel_rfl) rfl ?_
    refine vo_cons rfl (fun hC0 => ?_) ?_
    ·skip
     refine vc_see 0 rfl (Sl.vis.imp fun w r => r.adr) (fun hadr => ?_)
     have ha5 : h5.a = some ⟨h5.blk, h5.off, none⟩ := hadr.resolve_right (by rintro ⟨e, _⟩; cases e)
     refine vc_y (y_bytesStr 0 rfl (E := eU8) (fun _ => rfl) (h := h5) Sl.vis ha5 Tryz.underlying107 Tryz.underlying5 Tryz.underlying9 rfl) rfl ?_
     refine vc_nil ?_
     refine vc_then ?_
     refine va_kept hC0 [1] rfl ?_
     clear hC0
     refine va_ready [5] (by kernel_rfl) rfl ?_
     refine vo_cons rfl (fun hC0 => ?_) ?_
     ·skip
      refine vc_callv ca_199 (us := []) (vs := []) rfl [_] rfl [] rfl (refKey_any (b := x.bits.toNat)) rfl ?_
      rintro _ _ ⟨s, hs, rfl, rfl⟩
      refine vc_nil ?_
      refine vc_then ?_
      refine va_kept hC0 [1] rfl ?_
      clear hC0
      refine tp 6 rfl (by exact y_cat rfl rfl (by rw [hs, strOfNums_size]; simp)) ?_
      refine tpp 7 ?_
      refine va_done (by kernel_rfl) ?_
      refine vc_then ?_
      refine vc_ret ?_
      refine vc_thenRet ?_
      exact vc_end1 Tryz.results172 rfl _ (ent_pick [] rfl) ⟨_, by first | (rw [size_cat, hs, strOfNums_size]; simp [vWeight, hv, hn]; done) | (rw [size_cat, strOfNums_size]; simp [vWeight, hv, hn]; try omega), rfl, rfl⟩
     exact vo_nil
    refine vo_cons rfl (fun hC0 => ?_) ?_
    ·skip
     refine vc_callv ca_199 (us := []) (vs := []) rfl [_] rfl [] rfl (refKey_any (b := x.bits.toNat)) rfl ?_
     rintro _ _ ⟨s, hs, rfl, rfl⟩
     refine vc_nil ?_
     refine vc_then ?_
     refine va_kept hC0 [1] rfl ?_
     clear hC0
     refine va_ready [1] (by kernel_rfl) rfl ?_
     refine vo_cons rfl (fun hC0 => ?_) ?_
     ·skip
      refine vc_see 0 rfl (Sl.vis.imp fun w r => r.adr) (fun hadr => ?_)
      have ha5 : h5.a = some ⟨h5.blk, h5.off, none⟩ := hadr.resolve_right (by rintro ⟨e, _⟩; cases e)
      refine vc_y (y_bytesStr 0 rfl (E := eU8) (fun _ => rfl) (h := h5) Sl.vis ha5 Tryz.underlying107 Tryz.underlying5 Tryz.underlying9 rfl) rfl ?_
      refine vc_nil ?_
      refine vc_then ?_
      refine va_kept hC0 [1] rfl ?_
      clear hC0
      refine tp 6 rfl (by exact y_cat rfl rfl (by rw [hs, strOfNums_size]; simp)) ?_
      refine tpp 7 ?_
      refine va_done (by kernel_rfl) ?_
      refine vc_then ?_
      refine vc_ret ?_
      refine vc_thenRet ?_
      exact vc_end1 Tryz.results172 rfl _ (ent_pick [] rfl) ⟨_, by first | (rw [size_cat, hs, strOfNums_size]; simp [vWeight, hv, hn]; done) | (rw [size_cat, strOfNums_size]; simp [vWeight, hv, hn]; try omega), rfl, rfl⟩
     exact vo_nil
    exact vo_nil
   refine vo_cons rfl (fun hC0 => ?_) ?_
   ·skip
    refine vc_callv ca_199 (us := []) (vs := []) rfl [_] rfl [] rfl (refKey_any (b := x.bits.toNat)) rfl ?_
    rintro _ _ ⟨s, hs, rfl, rfl⟩
    refine vc_nil ?_
    refine vc_then ?_
    refine va_kept hC0 [0] rfl ?_
    clear hC0
    refine va_ready [0] (by kernel_rfl) rfl ?_
    refine vo_cons rfl (fun hC0 => ?_) ?_
    ·skip
     refine vc_buildSlice (E := eU8) [(0, _)] [1] rfl rfl (bs_107_1 _ rfl) rfl (fun h5 => ?_)
     refine vc_nil ?_
     refine vc_then ?_
     refine va_kept hC0 [1] rfl ?_
     clear hC0
     refine va_ready [1] (by kernel_rfl) rfl ?_
     refine vo_cons rfl (fun hC0 => ?_) ?_
     ·skip
      refine vc_see 0 rfl (Sl.vis.imp fun w r => r.adr) (fun hadr => ?_)
      have ha5 : h5.a = some ⟨h5.blk, h5.off, none⟩ := hadr.resolve_right (by rintro ⟨e, _⟩; cases e)
      refine vc_y (y_bytesStr 0 rfl (E := eU8) (fun _ => rfl) (h := h5) Sl.vis ha5 Tryz.underlying107 Tryz.underlying5 Tryz.underlying9 rfl) rfl ?_
      refine vc_nil ?_
      refine vc_then ?_
      refine va_kept hC0 [1] rfl ?_
      clear hC0
      refine tp 6 rfl (by exact y_cat rfl rfl (by rw [hs, strOfNums_size]; simp)) ?_
      refine tpp 7 ?_
      refine va_done (by kernel_rfl) ?_
      refine vc_then ?_
      refine vc_ret ?_
      refine vc_thenRet ?_
      exact vc_end1 Tryz.results172 rfl _ (ent_pick [] rfl) ⟨_, by first | (rw [size_cat, hs, strOfNums_size]; simp [vWeight, hv, hn]; done) | (rw [size_cat, strOfNums_size]; simp [vWeight, hv, hn]; try omega), rfl, rfl⟩
     exact vo_nil
    exact vo_nil
   exact vo_nil
  exact vo_nil
 ·skip
  have hn : x.num = false := c4
  have hsz : (x.text.size : Int) ≤ 64 := by
   have := hv
   simp only [valRight, hn, Bool.false_eq_true, if_false, Bool.and_eq_true, decide_eq_true_eq] at this
   exact this.2
  refine vc_skip ?_
  refine vc_then ?_
  refine vc_seq ?_
  refine vc_region ?_
  refine vc_buildSlice (E := eU8) [(0, _)] [0] rfl rfl (bs_107_1 _ rfl) rfl (fun h12 => ?_)
  refine vc_see 0 rfl (Sl.vis.imp fun w r => r.adr) (fun hadr => ?_)
  have ha12 : h12.a = some ⟨h12.blk, h12.off, none⟩ := hadr.resolve_right (by rintro ⟨e, _⟩; cases e)
  refine vc_y (y_bytesStr 0 rfl (E := eU8) (fun _ => rfl) (h := h12) Sl.vis ha12 Tryz.underlying107 Tryz.underlying5 Tryz.underlying9 rfl) rfl ?_
  refine vc_y (y_fieldP fl_45_1 1 rfl rfl) rfl ?_
  refine vc_y (y_load1 1 rfl one_9 rfl (Pts.vis rfl)) rfl ?_
  refine vc_y (y_cat rfl rfl (by rw [strOfNums_size]; simp; omega)) rfl ?_
  refine vp ?_
  refine vc_nil ?_
  refine vc_then ?_
  refine vc_ret ?_
  exact vc_end1 Tryz.results172 rfl _ (ent_pick [] rfl) ⟨_, by first | (rw [size_cat, hs, strOfNums_size]; simp [vWeight, hv, hn]; done) | (rw [size_cat, strOfNums_size]; simp [vWeight, hv, hn]; try omega), rfl, rfl⟩
theorem verRight_val {v : Ver} (h : verRight v = true) : valRight v.val = true := by
 simp only [verRight, Bool.and_eq_true] at h; exact h.2.2.1
theorem chain_val {l : List Ver} (h : chainRight l = true) {i : Nat} (hi : i < l.length) : valRight l[i].val = true := verRight_val (chainFrom_mem h _ (List.getElem_mem hi)).2
theorem sw_skip {f : Int} {l : List Ver} {i : Nat} (h : i < l.length) (h1 : i + 1 < l.length) (h2 : l[i + 1].seq ≤ f) : swGo f (l.drop i) = swGo f (l.drop (i + 1)) := by
 rw [List.drop_eq_getElem_cons h, List.drop_eq_getElem_cons h1]
 show (if l[i + 1].seq ≤ f then [] else [l[i]]) ++ _ = _
 rw [if_pos h2]; rfl
theorem sw_keep {f : Int} {l : List Ver} {i : Nat} (h : i < l.length) (h2 : ∀ h1 : i + 1 < l.length, ¬ l[i + 1].seq ≤ f) : swGo f (l.drop i) = l[i] :: swGo f (l.drop (i + 1)) := by
 rw [List.drop_eq_getElem_cons h]
 by_cases h1 : i + 1 < l.length
 ·rw [List.drop_eq_getElem_cons h1]
  show (if l[i + 1].seq ≤ f then [] else [l[i]]) ++ _ = _
  rw [if_neg (h2 h1)]; rfl
 ·rw [List.drop_eq_nil_of_le (by omega)]; rfl
theorem refWeight_spec {A : HP} {h : SH} {xs : List Ver} (hv : Vis A (Rd eVer h xs)) (hb : xs.length ≤ 1000000) (hc : chainRight xs = true) : Does Tryz.prog 136 [h.v] [A] (fun v l => v = .int .i64 (cWeight xs) ∧ l = [A]) := by
 refine spec_of Tryz.func136 rfl Tryz.ntmps136 Tryz.results136 _ (by simp) fun ι F => ?_
 refine vc_see 0 rfl (hv.imp fun w r => r.len) (fun hlen => ?_)
 refine vc_seq ?_
 refine vc_region ?_
 refine vp ?_
 refine vc_nil ?_
 refine vc_then ?_
 refine vc_seq ?_
 refine vc_seq ?_
 refine vc_region ?_
 refine vp ?_
 refine vc_y (y_len Tryz.underlying138 rfl (by first | assumption | rfl)) rfl ?_
 refine vp ?_
 refine vp ?_
 first | refine vc_splitP 6 rfl (fun c6 => ?_) (fun c6 => ?_) | refine vc_splitN 6 rfl (fun c6 => ?_) (fun c6 => ?_) | refine vc_split 6 rfl (fun c6 => ?_) (fun c6 => ?_)
 ·skip
  obtain rfl : xs = [] := List.length_eq_zero_iff.1 (by omega)
  refine vc_guardF 6 rfl rfl rfl rfl ?_
  refine vc_guardF 6 rfl rfl rfl rfl ?_
  refine vc_guardF 6 rfl rfl rfl rfl ?_
  refine vc_guardF 6 rfl rfl rfl rfl ?_
  refine vc_guardF 6 rfl rfl rfl rfl ?_
  refine vc_guardF 6 rfl rfl rfl rfl ?_
  refine vc_guardF 6 rfl rfl rfl rfl ?_
  refine vp ?_
  refine vc_nil ?_
  refine vc_then ?_
  refine vc_condT rfl ?_
  refine vc_seq ?_
  refine vc_region ?_
  refine vp ?_
  refine vc_nil ?_
  refine vc_then ?_
  refine vc_ret ?_
  refine vc_thenRet ?_
  exact vc_end1 Tryz.results136 rfl _ (ent_pick [0] rfl) ⟨by first | rfl | (simp [cWeight, hlast, c14]; done) | (simp [cWeight, hlast, c14, hs]), rfl⟩
 ·skip
  have hlast : verLast xs = some (xs[xs.length - 1]'(by omega)) := by simp only [verLast, hc, if_true]; exact List.getElem?_eq_getElem (by omega)
  refine vc_guardT 6 rfl rfl ?_
  refine vp ?_
  refine vc_guardT 6 rfl rfl ?_
  refine vp ?_
  refine vc_guardT 6 rfl rfl ?_
  refine vc_y (y_len Tryz.underlying138 rfl (by first | assumption | rfl)) rfl ?_
  refine vc_guardT 6 rfl rfl ?_
  refine vc_y (y_arith ((xs.length - 1 : Nat) : Int) rfl (wrapNsub (by omega))) rfl ?_
  refine vc_guardT 6 rfl rfl ?_
  refine vc_y (y_elem 0 rfl (hv) (xs.length - 1) rfl (by omega) sl_138 rfl rfl) rfl ?_
  refine vc_guardT 6 rfl rfl ?_
  refine vc_y (y_fieldE fl_135_1 1 rfl rfl) rfl ?_
  refine vc_guardT 6 rfl rfl ?_
  refine vc_y (y_load1 0 rfl one_4 rfl (Rd.vis1 (hv) (List.getElem?_eq_getElem (by first | assumption | omega)) rfl)) rfl ?_
  refine vp ?_
  refine vc_nil ?_
  refine vc_then ?_
  first | refine vc_condP rfl (fun c14 => ?_) (fun c14 => ?_) | refine vc_condN rfl (fun c14 => ?_) (fun c14 => ?_) | refine vc_cond rfl (fun c14 => ?_) (fun c14 => ?_)
  ·skip
   refine vc_seq ?_
   refine vc_region ?_
   refine vp ?_
   refine vc_nil ?_
   refine vc_then ?_
   refine vc_ret ?_
   refine vc_thenRet ?_
   exact vc_end1 Tryz.results136 rfl _ (ent_pick [0] rfl) ⟨by first | rfl | (simp [cWeight, hlast, c14]; done) | (simp [cWeight, hlast, c14, hs]), rfl⟩
  ·skip
   refine vc_skip ?_
   refine vc_then ?_
   refine vc_seq ?_
   refine vc_region ?_
   refine vp ?_
   refine vp ?_
   refine vc_y (y_len Tryz.underlying138 rfl (by first | assumption | rfl)) rfl ?_
   refine vc_y (y_arith ((xs.length - 1 : Nat) : Int) rfl (wrapNsub (by omega))) rfl ?_
   refine vc_y (y_elem 0 rfl (hv) (xs.length - 1) rfl (by omega) sl_138 rfl rfl) rfl ?_
   refine vc_y (y_fieldE fl_135_2 2 rfl rfl) rfl ?_
   refine vc_y (y_loadA 0 rfl (cs := [_, _, _]) ag_45 rfl (Rd.visA (hv) (List.getElem?_eq_getElem (by first | assumption | omega)) rfl)) rfl ?_
   refine vc_callv ca_172 (us := []) (vs := []) rfl [_] rfl [] rfl (refPack_spec (xs[xs.length - 1]'(by omega)).val (chain_val hc (by omega))) rfl ?_
   rintro _ _ ⟨s, hs, rfl, rfl⟩
   refine vc_y (y_strLen Tryz.underlying9 rfl) rfl ?_
   refine vp ?_
   refine vc_nil ?_
   refine vc_then ?_
   refine vc_ret ?_
   exact vc_end1 Tryz.results136 rfl _ (ent_pick [0] rfl) ⟨by first | rfl | (simp [cWeight, hlast, c14]; done) | (simp [cWeight, hlast, c14, hs]), rfl⟩
theorem refAt_spec {A : HP} {h : SH} {xs : List Ver} (hv : Vis A (Rd eVer h xs)) (hb : xs.length ≤ 1000000) (hc : chainRight xs = true) (seq : Int) : Does Tryz.prog 96 [h.v, .int .i64 seq] [A] (fun v l => v = optVer (verAt xs seq) ∧ l = [A]) := by
 refine spec_of Tryz.func96 rfl Tryz.ntmps96 Tryz.results96 _ (by simp) fun ι F => ?_
 refine vc_see 0 rfl (hv.imp fun w r => r.len) (fun hlen => ?_)
 refine vc_seq ?_
 refine vc_region ?_
 refine vc_alloc [.int .i64 0, .bool false, .bool false, .string ⟨#[]⟩, .int .u64 0] ze_135 rfl rfl (fun b4 => ?_)
 refine vp ?_
 refine vc_nil ?_
 refine vc_then ?_
 refine vc_seq ?_
 refine vc_region ?_
 refine vc_y (y_build [] [_, _, _, _, _] rfl (bu_135_n  )) rfl ?_
 refine vc_alloc [.int .i64 0, .bool false, .bool false, .string ⟨#[]⟩, .int .u64 0] ze_135 rfl rfl (fun b6 => ?_)
 refine vc_storeP 0 rfl [_, _, _, _, _] [_, _, _, _, _] rfl rfl rfl sz_135 rfl rfl rfl ?_
 refine vc_nil ?_
 refine vc_then ?_
 refine vc_seq ?_
 refine vc_region ?_
 refine vp ?_
 refine vc_nil ?_
 refine vc_then ?_
 refine vc_seq ?_
 refine vc_seq ?_
 refine vc_region ?_
 refine vp ?_
 refine vc_nil ?_
 refine vc_then ?_
 refine vc_block ?_
 refine vc_loop (α := Nat × Ver × Bool) (fun xq_ => match xq_ with | (i, x, ok) => [(0, h.v), (1, .int .i64 seq), (4, .pointer (some ⟨b4, 0, none⟩)), (6, .pointer (some ⟨b6, 0, none⟩)), (7, .bool ok), (8, .int .i64 (i : Int))]) (fun xq_ => match xq_ with | (i, x, ok) => [Pts b6 x.cs 135, Pts b4 ver0.cs 135, A]) (fun xq_ => match xq_ with | (i, x, ok) => xs.length - i) (fun xq_ => match xq_ with | (i, x, ok) => i ≤ xs.length ∧ atGo seq xs (ver0, false) = atGo seq (xs.drop i) (x, ok)) (0, ver0, false) ⟨Nat.zero_le _, rfl⟩ ⟨rfl, rfl, rfl, rfl, rfl, rfl, trivial⟩ (ent_pick [0, 0, 0] rfl) ?_
 rintro ⟨i, x, ok⟩ ⟨hi, hst⟩
 show VC _ _ _ _ [(0, h.v), (1, .int .i64 seq), (4, .pointer (some ⟨b4, 0, none⟩)), (6, .pointer (some ⟨b6, 0, none⟩)), (7, .bool ok), (8, .int .i64 (i : Int))] ([Pts b6 x.cs 135, Pts b4 ver0.cs 135, A])
 refine vc_seq ?_
 refine vc_seq ?_
 refine vc_region ?_
 refine vp ?_
 refine vp ?_
 refine vc_y (y_len Tryz.underlying138 rfl (by first | assumption | rfl)) rfl ?_
 refine vp ?_
 refine vc_nil ?_
 refine vc_then ?_
 first | refine vc_condP rfl (fun c13 => ?_) (fun c13 => ?_) | refine vc_condN rfl (fun c13 => ?_) (fun c13 => ?_) | refine vc_cond rfl (fun c13 => ?_) (fun c13 => ?_)
 ·skip
  have hi2 : i < xs.length := by omega
  refine vc_skip ?_
  refine vc_then ?_
  refine vc_seq ?_
  refine vc_block ?_
  refine vc_seq ?_
  refine vc_region ?_
  refine vp ?_
  refine vp ?_
  refine vc_y (y_elem 2 rfl (hv) i rfl hi2 sl_138 rfl rfl) rfl ?_
  refine vc_y (y_fieldE fl_135_0 0 rfl rfl) rfl ?_
  refine vc_y (y_load1 2 rfl one_3 rfl (Rd.vis1 (hv) (List.getElem?_eq_getElem (by first | assumption | omega)) rfl)) rfl ?_
  refine vp ?_
  refine vp ?_
  refine vc_nil ?_
  refine vc_then ?_
  first | refine vc_condP rfl (fun c22 => ?_) (fun c22 => ?_) | refine vc_condN rfl (fun c22 => ?_) (fun c22 => ?_) | refine vc_cond rfl (fun c22 => ?_) (fun c22 => ?_)
  ·skip
   refine vc_seq ?_
   refine vc_region ?_
   refine vp ?_
   refine vp ?_
   refine vc_y (y_elem 2 rfl (hv) i rfl hi2 sl_138 rfl rfl) rfl ?_
   refine vc_y (y_loadA 2 rfl (cs := [_, _, _, _, _]) ag_135 rfl (Rd.visA (hv) (List.getElem?_eq_getElem (by first | assumption | omega)) rfl)) rfl ?_
   refine vc_storeP 0 rfl [_, _, _, _, _] [_, _, _, _, _] rfl rfl rfl sz_135 rfl rfl rfl ?_
   refine vc_nil ?_
   refine vc_then ?_
   refine vc_region ?_
   refine vc_y (y_fieldP fl_135_1 1 rfl rfl) rfl ?_
   refine vc_y (y_load1 0 rfl one_4 rfl (Pts.vis rfl)) rfl ?_
   refine vp ?_
   refine vp ?_
   refine vc_nil ?_
   refine vc_inNormal ?_
   refine vc_then ?_
   refine vc_region ?_
   refine vp ?_
   first | refine vc_y (y_arith _ rfl (wrapNadd (by omega))) rfl ?_ | refine vc_y (y_arith _ rfl (wrap64 (by omega) (by omega))) rfl ?_ | refine vp ?_
   refine vp ?_
   refine vc_nil ?_
   refine vc_then ?_
   first | exact vc_again (x := (i, x, ok)) (i + 1, xs[i], !xs[i].gone) ⟨hi2, by rw [hst, List.drop_eq_getElem_cons hi2]; simp only [atGo]; rw [if_pos c22]⟩ (by show xs.length - (i + 1) < xs.length - i; omega) ⟨rfl, rfl, rfl, rfl, rfl, rfl, trivial⟩ (ent_pick [0, 0, 0] rfl) | exact vc_again (x := (i, x, ok)) (i + 1, x, ok) ⟨hi2, by rw [hst, List.drop_eq_getElem_cons hi2]; simp only [atGo]; rw [if_neg c22]⟩ (by show xs.length - (i + 1) < xs.length - i; omega) ⟨rfl, rfl, rfl, rfl, rfl, rfl, trivial⟩ (ent_pick [0, 0, 0] rfl)
  ·skip
   refine vc_skip ?_
   refine vc_inNormal ?_
   refine vc_then ?_
   refine vc_region ?_
   refine vp ?_
   first | refine vc_y (y_arith _ rfl (wrapNadd (by omega))) rfl ?_ | refine vc_y (y_arith _ rfl (wrap64 (by omega) (by omega))) rfl ?_ | refine vp ?_
   refine vp ?_
   refine vc_nil ?_
   refine vc_then ?_
   first | exact vc_again (x := (i, x, ok)) (i + 1, xs[i], !xs[i].gone) ⟨hi2, by rw [hst, List.drop_eq_getElem_cons hi2]; simp only [atGo]; rw [if_pos c22]⟩ (by show xs.length - (i + 1) < xs.length - i; omega) ⟨rfl, rfl, rfl, rfl, rfl, rfl, trivial⟩ (ent_pick [0, 0, 0] rfl) | exact vc_again (x := (i, x, ok)) (i + 1, x, ok) ⟨hi2, by rw [hst, List.drop_eq_getElem_cons hi2]; simp only [atGo]; rw [if_neg c22]⟩ (by show xs.length - (i + 1) < xs.length - i; omega) ⟨rfl, rfl, rfl, rfl, rfl, rfl, trivial⟩ (ent_pick [0, 0, 0] rfl)
 ·skip
  obtain rfl : i = xs.length := by omega
  rw [List.drop_length] at hst
  refine vc_exit ?_
  refine vc_thenExit ?_
  refine vc_thenExit ?_
  refine vc_inExit ?_
  refine vc_then ?_
  refine vc_seq ?_
  refine vc_seq ?_
  refine vc_region ?_
  refine vp ?_
  refine vp ?_
  refine vc_nil ?_
  refine vc_then ?_
  first | refine vc_condP rfl (fun c31 => ?_) (fun c31 => ?_) | refine vc_condN rfl (fun c31 => ?_) (fun c31 => ?_) | refine vc_cond rfl (fun c31 => ?_) (fun c31 => ?_)
  ·skip
   refine vc_seq ?_
   refine vc_region ?_
   refine vc_y (y_build [] [_, _, _, _, _] rfl (bu_135_n  )) rfl ?_
   refine vc_storeP 1 rfl [_, _, _, _, _] [_, _, _, _, _] rfl rfl rfl sz_135 rfl rfl rfl ?_
   refine vp ?_
   refine vc_nil ?_
   refine vc_then ?_
   refine vc_ret ?_
   refine vc_thenRet ?_
   exact vc_endR Tryz.results96 (resL_cons (res_a 1 rfl (cs := [_, _, _, _, _]) ag_135 rfl (Pts.visA rfl)) (resL_cons (res_t rfl) (resL_nil))) _ (ent_pick [2] rfl) ⟨by rw [← atGo_ver hc seq, hst]; simp only [atGo]; rw [show ok = false by simpa using c31]; rfl, rfl⟩
  ·skip
   refine vc_skip ?_
   refine vc_then ?_
   refine vc_seq ?_
   refine vc_region ?_
   refine vc_y (y_loadA 0 rfl (cs := [_, _, _, _, _]) ag_135 rfl (Pts.visA rfl)) rfl ?_
   refine vc_storeP 1 rfl [_, _, _, _, _] [_, _, _, _, _] rfl rfl rfl sz_135 rfl rfl rfl ?_
   refine vp ?_
   refine vc_nil ?_
   refine vc_then ?_
   refine vc_ret ?_
   exact vc_endR Tryz.results96 (resL_cons (res_a 1 rfl (cs := [_, _, _, _, _]) ag_135 rfl (Pts.visA rfl)) (resL_cons (res_t rfl) (resL_nil))) _ (ent_pick [2] rfl) ⟨by rw [← atGo_ver hc seq, hst]; simp only [atGo]; rw [show ok = true by simpa using c31]; rfl, rfl⟩
theorem refSweep_spec {A : HP} {h : SH} {xs : List Ver} (hv : Vis A (Rd eVer h xs)) (hb : xs.length ≤ 1000000) (hc : chainRight xs = true) (seq : Int) : Does Tryz.prog 119 [h.v, .int .i64 seq] [A] (fun v l => ∃ h', v = h'.v ∧ l = [Sl eVer h' (verSweep xs seq), A]) := by
 refine spec_of Tryz.func119 rfl Tryz.ntmps119 Tryz.results119 _ (by simp) fun ι F => ?_
 refine vc_see 0 rfl (hv.imp fun w r => r.len) (fun hlen => ?_)
 refine vc_seq ?_
 refine vc_region ?_
 refine vp ?_
 refine vc_nil ?_
 refine vc_then ?_
 refine vc_seq ?_
 refine vc_region ?_
 refine vc_buildSlice (E := eVer) [] [] rfl rfl (bs_138_0  ) rfl (fun h7 => ?_)
 refine vp ?_
 refine vc_nil ?_
 refine vc_then ?_
 refine vc_seq ?_
 refine vc_seq ?_
 refine vc_region ?_
 refine vp ?_
 refine vc_nil ?_
 refine vc_then ?_
 refine vc_block ?_
 refine vc_loop (α := Nat × SH × List Ver) (fun xq_ => match xq_ with | (i, hh, ys) => [(0, h.v), (1, .int .i64 seq), (5, hh.v), (6, .int .i64 (i : Int))]) (fun xq_ => match xq_ with | (i, hh, ys) => [Sl eVer hh ys, A]) (fun xq_ => match xq_ with | (i, hh, ys) => xs.length - i) (fun xq_ => match xq_ with | (i, hh, ys) => i ≤ xs.length ∧ swGo seq xs = ys ++ swGo seq (xs.drop i) ∧ ys.length ≤ i) (0, h7, []) ⟨Nat.zero_le _, rfl, Nat.le_refl _⟩ ⟨rfl, rfl, rfl, rfl, trivial⟩ (ent_pick [0, 0] rfl) ?_
 rintro ⟨i, hh, ys⟩ ⟨hi, hst, hyl⟩
 show VC _ _ _ _ [(0, h.v), (1, .int .i64 seq), (5, hh.v), (6, .int .i64 (i : Int))] ([Sl eVer hh ys, A])
 refine vc_seq ?_
 refine vc_seq ?_
 refine vc_region ?_
 refine vp ?_
 refine vp ?_
 refine vc_y (y_len Tryz.underlying138 rfl (by first | assumption | rfl)) rfl ?_
 refine vp ?_
 refine vc_nil ?_
 refine vc_then ?_
 first | refine vc_condP rfl (fun c11 => ?_) (fun c11 => ?_) | refine vc_condN rfl (fun c11 => ?_) (fun c11 => ?_) | refine vc_cond rfl (fun c11 => ?_) (fun c11 => ?_)
 ·skip
  have hi2 : i < xs.length := by omega
  refine vc_skip ?_
  refine vc_then ?_
  refine vc_seq ?_
  refine vc_block ?_
  refine vc_seq ?_
  refine vc_seq ?_
  refine vc_region ?_
  refine vp ?_
  first | refine vc_y (y_arith _ rfl (wrapNadd (by omega))) rfl ?_ | refine vc_y (y_arith _ rfl (wrap64 (by omega) (by omega))) rfl ?_ | refine vp ?_
  refine vp ?_
  refine vc_y (y_len Tryz.underlying138 rfl (by first | assumption | rfl)) rfl ?_
  refine vp ?_
  refine vp ?_
  first | refine vc_splitP 19 rfl (fun c19 => ?_) (fun c19 => ?_) | refine vc_splitN 19 rfl (fun c19 => ?_) (fun c19 => ?_) | refine vc_split 19 rfl (fun c19 => ?_) (fun c19 => ?_)
  ·skip
   refine vc_guardT 19 rfl rfl ?_
   refine vp ?_
   refine vc_guardT 19 rfl rfl ?_
   refine vp ?_
   refine vc_guardT 19 rfl rfl ?_
   first | refine vc_y (y_arith _ rfl (wrapNadd (by omega))) rfl ?_ | refine vc_y (y_arith _ rfl (wrap64 (by omega) (by omega))) rfl ?_ | refine vp ?_
   refine vc_guardT 19 rfl rfl ?_
   refine vc_y (y_elem 1 rfl (hv) (i + 1) rfl (by omega) sl_138 rfl rfl) rfl ?_
   refine vc_guardT 19 rfl rfl ?_
   refine vc_y (y_fieldE fl_135_0 0 rfl rfl) rfl ?_
   refine vc_guardT 19 rfl rfl ?_
   refine vc_y (y_load1 1 rfl one_3 rfl (Rd.vis1 (hv) (List.getElem?_eq_getElem (by first | assumption | omega)) rfl)) rfl ?_
   refine vc_guardT 19 rfl rfl ?_
   refine vp ?_
   refine vc_guardT 19 rfl rfl ?_
   refine vp ?_
   refine vp ?_
   refine vc_nil ?_
   refine vc_then ?_
   first | refine vc_condP rfl (fun c28 => ?_) (fun c28 => ?_) | refine vc_condN rfl (fun c28 => ?_) (fun c28 => ?_) | refine vc_cond rfl (fun c28 => ?_) (fun c28 => ?_)
   ·skip
    refine vc_exit ?_
    refine vc_thenExit ?_
    refine vc_inExit ?_
    refine vc_then ?_
    refine vc_region ?_
    refine vp ?_
    first | refine vc_y (y_arith _ rfl (wrapNadd (by omega))) rfl ?_ | refine vc_y (y_arith _ rfl (wrap64 (by omega) (by omega))) rfl ?_ | refine vp ?_
    refine vp ?_
    refine vc_nil ?_
    refine vc_then ?_
    first | exact vc_again (x := (i, hh, ys)) (i + 1, hh, ys) ⟨hi2, by rw [hst, sw_skip hi2 (by omega) c28], by omega⟩ (by show xs.length - (i + 1) < xs.length - i; omega) ⟨rfl, rfl, rfl, rfl, trivial⟩ (ent_pick [0, 0] rfl) | exact vc_again (x := (i, hh, ys)) (i + 1, h35, ys ++ [xs[i]]) ⟨hi2, by rw [hst, sw_keep hi2 (by first | exact fun _ => c28 | (intro h0; omega))]; simp, by simp; omega⟩ (by show xs.length - (i + 1) < xs.length - i; omega) ⟨rfl, rfl, rfl, rfl, trivial⟩ (ent_pick [0, 0] rfl)
   ·skip
    refine vc_skip ?_
    refine vc_then ?_
    refine vc_region ?_
    iterate 3 refine vp ?_
    refine vc_y (y_elem 1 rfl (hv) i rfl hi2 sl_138 rfl rfl) rfl ?_
    refine vc_y (y_loadA 1 rfl (cs := [_, _, _, _, _]) ag_135 rfl (Rd.visA (hv) (List.getElem?_eq_getElem (by first | assumption | omega)) rfl)) rfl ?_
    refine vc_buildSlice (E := eVer) [(0, _)] [xs[i]] rfl rfl (bs_138_1 _ _ _ _ _ ) rfl (fun h34 => ?_)
    refine vc_append 1 rfl 0 rfl (Sl.vis) el_138_eVer Tryz.underlying138 rfl rfl (by simp; omega) (by simp; omega) rfl (fun h35 => ?_)
    refine vp ?_
    refine vc_nil ?_
    refine vc_inNormal ?_
    refine vc_then ?_
    refine vc_region ?_
    refine vp ?_
    first | refine vc_y (y_arith _ rfl (wrapNadd (by omega))) rfl ?_ | refine vc_y (y_arith _ rfl (wrap64 (by omega) (by omega))) rfl ?_ | refine vp ?_
    refine vp ?_
    refine vc_nil ?_
    refine vc_then ?_
    first | exact vc_again (x := (i, hh, ys)) (i + 1, hh, ys) ⟨hi2, by rw [hst, sw_skip hi2 (by omega) c28], by omega⟩ (by show xs.length - (i + 1) < xs.length - i; omega) ⟨rfl, rfl, rfl, rfl, trivial⟩ (ent_pick [1, 1] rfl) | exact vc_again (x := (i, hh, ys)) (i + 1, h35, ys ++ [xs[i]]) ⟨hi2, by rw [hst, sw_keep hi2 (by first | exact fun _ => c28 | (intro h0; omega))]; simp, by simp; omega⟩ (by show xs.length - (i + 1) < xs.length - i; omega) ⟨rfl, rfl, rfl, rfl, trivial⟩ (ent_pick [1, 1] rfl)
  ·skip
   refine vc_guardF 19 rfl rfl rfl rfl ?_
   refine vc_guardF 19 rfl rfl rfl rfl ?_
   refine vc_guardF 19 rfl rfl rfl rfl ?_
   refine vc_guardF 19 rfl rfl rfl rfl ?_
   refine vc_guardF 19 rfl rfl rfl rfl ?_
   refine vc_guardF 19 rfl rfl rfl rfl ?_
   refine vc_guardF 19 rfl rfl rfl rfl ?_
   refine vc_guardF 19 rfl rfl rfl rfl ?_
   refine vp ?_
   refine vc_nil ?_
   refine vc_then ?_
   refine vc_condF rfl ?_
   refine vc_skip ?_
   refine vc_then ?_
   refine vc_region ?_
   iterate 3 refine vp ?_
   refine vc_y (y_elem 1 rfl (hv) i rfl hi2 sl_138 rfl rfl) rfl ?_
   refine vc_y (y_loadA 1 rfl (cs := [_, _, _, _, _]) ag_135 rfl (Rd.visA (hv) (List.getElem?_eq_getElem (by first | assumption | omega)) rfl)) rfl ?_
   refine vc_buildSlice (E := eVer) [(0, _)] [xs[i]] rfl rfl (bs_138_1 _ _ _ _ _ ) rfl (fun h34 => ?_)
   refine vc_append 1 rfl 0 rfl (Sl.vis) el_138_eVer Tryz.underlying138 rfl rfl (by simp; omega) (by simp; omega) rfl (fun h35 => ?_)
   refine vp ?_
   refine vc_nil ?_
   refine vc_inNormal ?_
   refine vc_then ?_
   refine vc_region ?_
   refine vp ?_
   first | refine vc_y (y_arith _ rfl (wrapNadd (by omega))) rfl ?_ | refine vc_y (y_arith _ rfl (wrap64 (by omega) (by omega))) rfl ?_ | refine vp ?_
   refine vp ?_
   refine vc_nil ?_
   refine vc_then ?_
   first | exact vc_again (x := (i, hh, ys)) (i + 1, hh, ys) ⟨hi2, by rw [hst, sw_skip hi2 (by omega) c28], by omega⟩ (by show xs.length - (i + 1) < xs.length - i; omega) ⟨rfl, rfl, rfl, rfl, trivial⟩ (ent_pick [1, 1] rfl) | exact vc_again (x := (i, hh, ys)) (i + 1, h35, ys ++ [xs[i]]) ⟨hi2, by rw [hst, sw_keep hi2 (by first | exact fun _ => c28 | (intro h0; omega))]; simp, by simp; omega⟩ (by show xs.length - (i + 1) < xs.length - i; omega) ⟨rfl, rfl, rfl, rfl, trivial⟩ (ent_pick [1, 1] rfl)
 ·skip
  obtain rfl : i = xs.length := by omega
  rw [List.drop_length] at hst
  have hst2 : swEnd seq ys = verSweep xs seq := by rw [← swEnd_eq hc, hst]; simp [swGo]
  refine vc_exit ?_
  refine vc_thenExit ?_
  refine vc_thenExit ?_
  refine vc_inExit ?_
  refine vc_then ?_
  refine vc_seq ?_
  refine vc_seq ?_
  refine vc_region ?_
  refine vc_see 0 rfl (Sl.vis.imp fun w r => (⟨r.len, r.cap⟩ : hh.len = ys.length ∧ ys.length ≤ hh.cap)) (fun hlc => ?_)
  obtain ⟨hl2, hcap⟩ := hlc
  refine vp ?_
  refine vc_y (y_len Tryz.underlying138 rfl (by first | assumption | rfl)) rfl ?_
  refine vp ?_
  refine vp ?_
  first | refine vc_splitP 39 rfl (fun c39 => ?_) (fun c39 => ?_) | refine vc_splitN 39 rfl (fun c39 => ?_) (fun c39 => ?_) | refine vc_split 39 rfl (fun c39 => ?_) (fun c39 => ?_)
  ·skip
   obtain ⟨y, r, rfl⟩ : ∃ y r, ys = y :: r := by
    cases ys with
    | nil => simp at c39
    | cons y r => exact ⟨y, r, rfl⟩
   rw [List.length_cons] at hl2 hcap
   refine vc_guardT 39 rfl rfl ?_
   refine vp ?_
   refine vc_guardT 39 rfl rfl ?_
   refine vc_y (y_elem 0 rfl (Sl.vis) 0 rfl (by simp) sl_138 rfl rfl) rfl ?_
   refine vc_guardT 39 rfl rfl ?_
   refine vc_y (y_fieldE fl_135_1 1 rfl rfl) rfl ?_
   refine vc_guardT 39 rfl rfl ?_
   refine vc_y (y_load1 0 rfl one_4 rfl (Rd.vis1 (Sl.vis) (List.getElem?_eq_getElem (by first | assumption | omega)) rfl)) rfl ?_
   refine vp ?_
   refine vp ?_
   first | refine vc_splitP 45 rfl (fun c45 => ?_) (fun c45 => ?_) | refine vc_splitN 45 rfl (fun c45 => ?_) (fun c45 => ?_) | refine vc_split 45 rfl (fun c45 => ?_) (fun c45 => ?_)
   ·skip
    have hg : y.gone = true := c45
    refine vc_guardT 45 rfl rfl ?_
    refine vp ?_
    refine vc_guardT 45 rfl rfl ?_
    refine vc_y (y_elem 0 rfl (Sl.vis) 0 rfl (by simp) sl_138 rfl rfl) rfl ?_
    refine vc_guardT 45 rfl rfl ?_
    refine vc_y (y_fieldE fl_135_0 0 rfl rfl) rfl ?_
    refine vc_guardT 45 rfl rfl ?_
    refine vc_y (y_load1 0 rfl one_3 rfl (Rd.vis1 (Sl.vis) (List.getElem?_eq_getElem (by first | assumption | omega)) rfl)) rfl ?_
    refine vc_guardT 45 rfl rfl ?_
    refine vp ?_
    refine vc_guardT 45 rfl rfl ?_
    refine vp ?_
    refine vp ?_
    refine vc_nil ?_
    refine vc_then ?_
    first | refine vc_condP rfl (fun c52 => ?_) (fun c52 => ?_) | refine vc_condN rfl (fun c52 => ?_) (fun c52 => ?_) | refine vc_cond rfl (fun c52 => ?_) (fun c52 => ?_)
    ·skip
     have hq : y.seq ≤ seq := c52
     refine vc_seq ?_
     refine vc_region ?_
     refine vp ?_
     refine vc_y (y_slice sl_138 rfl 1 hh.len hh.cap ⟨_, _, rfl, rfl⟩ rfl rfl (by simp) (by omega) (by omega) (by omega)) rfl ?_
     refine vp ?_
     refine vc_nil ?_
     refine vc_then ?_
     refine vc_ret ?_
     refine vc_thenRet ?_
     exact vc_end1 Tryz.results119 rfl _ ((ent_at [0, 0] rfl (ent_head (B := Sl eVer (hh.cut 5 1 hh.len hh.cap) (verSweep xs seq)) (by rw [← hst2]; have := Sl.cut (E := eVer) (h := hh) (xs := y :: r) (lo := 1) (hi := hh.len) (mx := hh.cap) (by omega) (by simp; omega) (by omega) (Nat.le_refl _); rw [hl2, ← List.length_cons, List.take_length] at this; simpa [swEnd, hg, hq, hl2, show eVer.sz = 5 from rfl] using this))).trans Ent.rfl) ⟨_, rfl, rfl⟩
    ·skip
     have hq : ¬ y.seq ≤ seq := c52
     refine vc_skip ?_
     refine vc_then ?_
     refine vc_seq ?_
     refine vc_region ?_
     refine vp ?_
     refine vp ?_
     refine vc_nil ?_
     refine vc_then ?_
     refine vc_ret ?_
     exact vc_end1 Tryz.results119 rfl _ ((ent_at [0, 0] rfl (ent_head (B := Sl eVer hh (verSweep xs seq)) (by rw [← hst2]; simp [swEnd, *]; exact Ent.rfl))).trans Ent.rfl) ⟨_, rfl, rfl⟩
   ·skip
    have hg : y.gone = false := by simpa using c45
    refine vc_guardF 45 rfl rfl rfl rfl ?_
    refine vc_guardF 45 rfl rfl rfl rfl ?_
    refine vc_guardF 45 rfl rfl rfl rfl ?_
    refine vc_guardF 45 rfl rfl rfl rfl ?_
    refine vc_guardF 45 rfl rfl rfl rfl ?_
    refine vc_guardF 45 rfl rfl rfl rfl ?_
    refine vp ?_
    refine vc_nil ?_
    refine vc_then ?_
    refine vc_condF rfl ?_
    refine vc_skip ?_
    refine vc_then ?_
    refine vc_seq ?_
    refine vc_region ?_
    refine vp ?_
    refine vp ?_
    refine vc_nil ?_
    refine vc_then ?_
    refine vc_ret ?_
    exact vc_end1 Tryz.results119 rfl _ ((ent_at [0, 0] rfl (ent_head (B := Sl eVer hh (verSweep xs seq)) (by rw [← hst2]; simp [swEnd, *]; exact Ent.rfl))).trans Ent.rfl) ⟨_, rfl, rfl⟩
  ·skip
   obtain rfl : ys = [] := List.length_eq_zero_iff.1 (by omega)
   refine vc_guardF 39 rfl rfl rfl rfl ?_
   refine vc_guardF 39 rfl rfl rfl rfl ?_
   refine vc_guardF 39 rfl rfl rfl rfl ?_
   refine vc_guardF 39 rfl rfl rfl rfl ?_
   refine vp ?_
   refine vp ?_
   refine vc_guardF 45 rfl rfl rfl rfl ?_
   refine vc_guardF 45 rfl rfl rfl rfl ?_
   refine vc_guardF 45 rfl rfl rfl rfl ?_
   refine vc_guardF 45 rfl rfl rfl rfl ?_
   refine vc_guardF 45 rfl rfl rfl rfl ?_
   refine vc_guardF 45 rfl rfl rfl rfl ?_
   refine vp ?_
   refine vc_nil ?_
   refine vc_then ?_
   refine vc_condF rfl ?_
   refine vc_skip ?_
   refine vc_then ?_
   refine vc_seq ?_
   refine vc_region ?_
   refine vp ?_
   refine vp ?_
   refine vc_nil ?_
   refine vc_then ?_
   refine vc_ret ?_
   exact vc_end1 Tryz.results119 rfl _ ((ent_at [0, 0] rfl (ent_head (B := Sl eVer hh (verSweep xs seq)) (by rw [← hst2]; simp [swEnd, *]; exact Ent.rfl))).trans Ent.rfl) ⟨_, rfl, rfl⟩
end Go.Proofs.YtcpbibdbahfgaaaGreat
namespace Go.Proofs.YtcpbibdbahfgaaaGreat
open Go.Eng
structure RfK where
 hL : SH
 ring : Int
 quota : Int
 most : Int
 bG : Nat
abbrev RfP (b : Nat) (K : RfK) (hO : SH) : HP := Pts b [K.hL.v, .int .i64 K.ring, .int .i64 K.quota, .int .i64 K.most, .pointer (some ⟨K.bG, 0, none⟩), hO.v] 67
abbrev RfL (b : Nat) (K : RfK) (hO : SH) (T : List On) : List HP := [RfP b K hO, RoSl eOne hO T, RoM T]
abbrev RgP (b : Nat) (size begin : Int) (hS : SH) : HP := Pts b [.int .i64 size, .int .i64 begin, hS.v] 126
structure TOk (T : List On) : Prop where
 c : ∀ p ∈ T, chainRight p.2.2 = true
 len : ∀ p ∈ T, p.2.2.length ≤ 950000
 k : ∀ p ∈ T, p.1.size ≤ 32
 n : T.length ≤ 200000
theorem mpT_mem {T : List On} {p : On} (h : p ∈ T) : (p.1, p.2.2) ∈ mpT T := List.mem_map.2 ⟨p, h, rfl⟩
theorem RmX.ok.tok {X : RmX} (ok : X.ok) {T : List On} (h : mpT T = X.M) : TOk T :=
 ⟨fun p hp => (ok.ps _ (h ▸ mpT_mem hp)).c, fun p hp => by have := (ok.ps _ (h ▸ mpT_mem hp)).len; have := ok.bg; simp only at *; omega, fun p hp => (ok.ps _ (h ▸ mpT_mem hp)).k2, by have := ok.le; rw [← h, mpT_length] at this; omega⟩
theorem sumM_succ (f : ByteArray × List Ver → Int) {T : List On} {i : Nat} (h : i < T.length) : sumM f (mpT (T.take (i + 1))) = sumM f (mpT (T.take i)) + f (T[i].1, T[i].2.2) := by
 rw [List.take_succ_eq_append_getElem h, mpT_append, sumM_append]; simp [mpT, sumM]
theorem TOk.take {T : List On} (h : TOk T) (i : Nat) : TOk (T.take i) :=
 ⟨fun p hp => h.c p (List.mem_of_mem_take hp), fun p hp => h.len p (List.mem_of_mem_take hp), fun p hp => h.k p (List.mem_of_mem_take hp), by have := h.n; simp; omega⟩
theorem TOk.live {T : List On} (h : TOk T) : 0 ≤ liveM (mpT T) ∧ liveM (mpT T) ≤ 97 * T.length := by
 have := sumM_bound (f := fun p => lives p.1 p.2) (c := 97) (M := mpT T) fun p hp => by
  obtain ⟨q, hq, rfl⟩ := List.mem_map.1 hp
  exact lives_le _ (h.k q hq)
 rw [mpT_length] at this; exact this
theorem TOk.vers {T : List On} (h : TOk T) : 0 ≤ versM (mpT T) ∧ versM (mpT T) ≤ 950000 * T.length := by
 have := sumM_bound (f := fun p => (p.2.length : Int)) (c := 950000) (M := mpT T) fun p hp => by
  obtain ⟨q, hq, rfl⟩ := List.mem_map.1 hp
  have := h.len q hq; simp only; omega
 rw [mpT_length] at this; exact this
def onT (T : List On) (key : ByteArray) : On := (T.find? fun p => sEq p.1 key).getD (key, nilS, [])
theorem onT_vis (T : List On) (key : ByteArray) : Vis (RoM T) (Rd eVer (onT T key).2.1 (onT T key).2.2) := by
 unfold onT
 cases h : T.find? fun p => sEq p.1 key with
 | none => exact fun _ _ _ => Rd.nil
 | some p => exact RoM.vis (List.mem_of_find?_eq_some h)
theorem onT_chain {T : List On} (hr : Rise (ks (mpT T))) (key : ByteArray) : (onT T key).2.2 = chainM (mpT T) key := by
 unfold onT
 cases h : T.find? fun p => sEq p.1 key with
 | none =>
  cases hl : Eng.look (mpT T) key with
  | none => simp [chainM, hl]
  | some l =>
   obtain ⟨p, hp, e⟩ := List.mem_map.1 (look_mem' hl)
   have := List.find?_eq_none.1 h p hp
   simp only [Prod.mk.injEq] at e
   rw [e.1, sEq_self] at this
   exact absurd rfl this
 | some p =>
  have h1 := List.find?_some h
  have h2 := chain_mem hr (mpT_mem (List.mem_of_find?_eq_some h))
  have h3 : p.1 = key := sEq_iff.1 h1
  rw [← h3, h2]; rfl
theorem cWeight_snoc {l : List Ver} {v : Ver} (h : chainRight (l ++ [v]) = true) : cWeight (l ++ [v]) = if v.gone then 0 else vWeight v.val := by
 have : verLast (l ++ [v]) = some v := by unfold verLast; rw [if_pos h]; simp
 unfold cWeight; rw [this]
theorem vWeight_pos {x : Val} (h : valRight x = true) : 1 ≤ vWeight x := by
 unfold vWeight
 rw [if_pos h]
 split <;> omega
theorem lives_snoc {k : ByteArray} {l : List Ver} {v : Ver} (h : chainRight (l ++ [v]) = true) : lives k (l ++ [v]) = if v.gone then 0 else (k.size : Int) + vWeight v.val := by
 unfold lives
 rw [cWeight_snoc h]
 have hv : valRight v.val = true := verRight_val (chainFrom_mem h v (by simp)).2
 have := vWeight_pos hv
 cases v.gone with
 | true => simp
 | false => simp; omega
theorem live_mPut {M : Mp} {k : ByteArray} {v : Ver} (h : chainRight (chainM M k ++ [v]) = true) : liveM (mPut M k v) = liveM M - lives k (chainM M k) + (if v.gone then 0 else (k.size : Int) + vWeight v.val) := by
 rw [← lives_snoc h]
 unfold mPut
 cases hf : fnd (ks M) k with
 | true =>
  obtain ⟨w, A, B, e1, e2, e3, e4, e5⟩ := fnd_split hf
  simp only [if_true]
  rw [sum_lives_put e1]
  have : chainM M k = w := by simp [chainM, e1]
  rw [this]
 | false =>
  simp only [Bool.false_eq_true, if_false]
  rw [sum_lives_ins, chainM_none hf, lives_nil]
  simp
theorem live_puts {X : RmX} {R' : RR} {ws : List Wr} (H : PutsH X R' ws) : ∀ i, i ≤ ws.length → Puts X R' R'.seq ws i ∧ liveM (mPuts X.M R'.seq (ws.take i)) = liveM X.M + addW X.M (ws.take i)
 | 0, _ => ⟨H.zero, by simp [mPuts, addW]⟩
 | i + 1, h => by
  obtain ⟨h1, h2⟩ := live_puts H i (by omega)
  have hi : i < ws.length := by omega
  obtain ⟨e1, e2⟩ := H.right hi h1
  refine ⟨H.step hi h1, ?_⟩
  rw [mPuts_succ hi, live_mPut (by rw [e1]; exact e2), e1, h2, addW_succ hi]
  simp only [wAdd]
  generalize (if ws[i].gone = true then (0 : Int) else (ws[i].key.size : Int) + vWeight ws[i].val) = q
  omega
theorem lastS_drop {L : List Int} {k : Nat} (h : k < L.length) : lastS (L.drop k) = lastS L := by
 unfold lastS
 rw [List.length_drop, List.getElem?_drop, show k + (L.length - k - 1) = L.length - 1 by omega]
theorem leI_append {a b : List Int} (h : RiseI (a ++ b)) (s : Int) : leI (a ++ b) s = if leI b s = 0 ∧ leI a s < a.length then leI a s else a.length + leI b s := by
 induction a with
 | nil => simp [leI]
 | cons x a ih =>
  have ih := ih h.2
  simp only [List.cons_append, leI, List.length_cons]
  by_cases hx : x ≤ s
  ·simp only [if_pos hx]
   rw [ih]
   by_cases hc : leI b s = 0 ∧ leI a s < a.length
   ·rw [if_pos hc, if_pos (by omega)]
   ·rw [if_neg hc, if_neg (by omega)]; omega
  ·simp only [if_neg hx]
   have hb : leI b s = 0 := by
    cases b with
    | nil => rfl
    | cons y b =>
     have := h.1 y (by simp)
     simp only [leI]
     rw [if_neg (by omega)]
   rw [if_pos ⟨hb, by omega⟩]
structure RgRel (R : RR) (L : List Int) : Prop where
 seq : R.seq = R.begin + L.length
 st : R.stamps = L.drop (L.length - R.size.toNat)
 rise : RiseI L
def asOfL (R : RR) (L : List Int) (s : Int) : Int × Int := if R.size ≤ (L.length : Int) - leI L s then (0, 14) else (R.begin + leI L s, 0)
theorem asOf_eq {R : RR} {L : List Int} (ok : R.ok) (h : RgRel R L) (s : Int) : asOfL R L s = asOfR R s := by
 obtain ⟨h1, h2, h3⟩ := h
 obtain ⟨o1, o2, o3, o4, o5, o6, o7, o8⟩ := ok
 have e := List.take_append_drop (L.length - R.size.toNat) L
 have hr : RiseI (L.take (L.length - R.size.toNat) ++ R.stamps) := by rw [h2, e]; exact h3
 have ha := leI_append hr s
 rw [h2, e] at ha
 have hlen : R.stamps.length = min L.length R.size.toNat := by rw [h2, List.length_drop]; omega
 have hle1 := leI_le L s
 have hle2 := leI_le R.stamps s
 have hle3 := leI_le (L.take (L.length - R.size.toNat)) s
 simp only [List.length_take] at ha hle3
 unfold asOfL asOfR RR.floor
 rw [h2] at hle2 hlen ⊢
 split at ha
 ·rename_i hc
  rw [if_pos (by omega), if_pos (by omega)]
 ·rename_i hc
  by_cases h0 : leI (L.drop (L.length - R.size.toNat)) s = 0
  ·by_cases hs : L.length ≤ R.size.toNat
   ·by_cases hq : R.size ≤ (L.length : Int) - leI L s
    ·rw [if_pos hq, if_pos (by omega)]
    ·rw [if_neg hq, if_neg (by omega)]; congr 1; omega
   ·rw [if_pos (by omega), if_pos (by omega)]
  ·rw [if_neg (by omega), if_neg (by omega)]; congr 1; omega
theorem push_rel {R : RR} {L : List Int} (ok : R.ok) (h : RgRel R L) {s : Int} (h1 : ¬ s ≤ lastS L) (h2 : ¬ 1073741824 ≤ R.seq) : RgRel (pushR R s).2.2 (L ++ [s]) := by
 obtain ⟨g1, g2, g3⟩ := h
 obtain ⟨o1, o2, o3, o4, o5, o6, o7, o8⟩ := ok
 have hl : lastS R.stamps = lastS L := by
  rw [g2]
  by_cases h0 : L.length = 0
  ·have : L = [] := List.length_eq_zero_iff.1 h0
   rw [this]; simp
  ·exact lastS_drop (by omega)
 have e : pushR R s = (R.seq + 1, 0, ⟨R.size, R.begin, R.seq + 1, (R.stamps ++ [s]).drop (R.stamps.length + 1 - R.size.toNat)⟩) := by unfold pushR; rw [hl, if_neg h1, if_neg h2]
 rw [e]
 refine ⟨by simp; omega, ?_, riseI_append.2 ⟨g3, ⟨by simp, trivial⟩, fun x hx y hy => ?_⟩⟩
 ·simp only [List.length_append, List.length_singleton]
  have hlen : R.stamps.length = min L.length R.size.toNat := by rw [g2, List.length_drop]; omega
  have e2 : R.stamps ++ [s] = (L ++ [s]).drop (L.length - R.size.toNat) := by rw [g2, List.drop_append_of_le_length (by omega)]
  rw [e2, List.drop_drop]
  congr 1
  omega
 ·simp at hy
  have := riseI_last g3 hx
  omega
end Go.Proofs.YtcpbibdbahfgaaaGreat
