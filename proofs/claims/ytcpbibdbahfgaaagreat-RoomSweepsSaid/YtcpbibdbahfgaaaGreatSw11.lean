/-
 The reference of rooms: what reads.
-/
import Derived.Test.YtcpbibdbahfgaaaGreatSw10
import Derived.Test.YtcpbibdbahfgaaaGreatSw9
set_option linter.unusedVariables false
set_option linter.unusedSimpArgs false
set_option autoImplicit false
set_option maxHeartbeats 4000000
namespace Go.Proofs.YtcpbibdbahfgaaaGreat
open Go.Eng
namespace FRef3
theorem fl_126_1 : Fld Tryz.prog 126 1 1 := ⟨_, _, 0, Tryz.underlying126, rfl, rfl, by kernel_rfl⟩
theorem one_3 : TyOne Tryz.prog 3 := ⟨⟨_, Tryz.underlying3, rfl⟩, by kernel_rfl⟩
theorem fl_126_2 : Fld Tryz.prog 126 2 2 := ⟨_, _, 0, Tryz.underlying126, rfl, rfl, by kernel_rfl⟩
theorem one_22 : TyOne Tryz.prog 22 := ⟨⟨_, Tryz.underlying22, rfl⟩, by kernel_rfl⟩
theorem fl_67_1 : Fld Tryz.prog 67 1 4 := ⟨_, _, 0, Tryz.underlying67, rfl, rfl, by kernel_rfl⟩
theorem one_64 : TyOne Tryz.prog 64 := ⟨⟨_, Tryz.underlying64, rfl⟩, by kernel_rfl⟩
theorem ca_100 : Callable Tryz.prog 100 := ⟨_, _, Tryz.func100, rfl, rfl⟩
theorem fl_67_0 : Fld Tryz.prog 67 0 0 := ⟨_, _, 3, Tryz.underlying67, rfl, rfl, by kernel_rfl⟩
theorem fl_24_1 : Fld Tryz.prog 24 1 1 := ⟨_, _, 0, Tryz.underlying24, rfl, rfl, by kernel_rfl⟩
theorem ca_37 : Callable Tryz.prog 37 := ⟨_, _, Tryz.func37, rfl, rfl⟩
theorem fl_67_2 : Fld Tryz.prog 67 2 5 := ⟨_, _, 0, Tryz.underlying67, rfl, rfl, by kernel_rfl⟩
theorem one_65 : TyOne Tryz.prog 65 := ⟨⟨_, Tryz.underlying65, rfl⟩, by kernel_rfl⟩
theorem sl_65 : TySl Tryz.prog 65 152 2 := ⟨Tryz.underlying65, by kernel_rfl⟩
theorem fl_152_1 : Fld Tryz.prog 152 1 1 := ⟨_, _, 0, Tryz.underlying152, rfl, rfl, by kernel_rfl⟩
theorem one_138 : TyOne Tryz.prog 138 := ⟨⟨_, Tryz.underlying138, rfl⟩, by kernel_rfl⟩
theorem ca_136 : Callable Tryz.prog 136 := ⟨_, _, Tryz.func136, rfl, rfl⟩
theorem fl_152_0 : Fld Tryz.prog 152 0 0 := ⟨_, _, 0, Tryz.underlying152, rfl, rfl, by kernel_rfl⟩
theorem one_9 : TyOne Tryz.prog 9 := ⟨⟨_, Tryz.underlying9, rfl⟩, by kernel_rfl⟩
theorem ca_96 : Callable Tryz.prog 96 := ⟨_, _, Tryz.func96, rfl, rfl⟩
theorem ze_135 : (Tryz.prog.info? 135).map (·.zero) = some (some (.agg #[.int .i64 0, .bool false, .bool false, .string ⟨#[]⟩, .int .u64 0])) := by kernel_rfl
theorem sz_135 : (Tryz.prog.info? 135).map (·.size) = some 5 := by kernel_rfl
end FRef3
open FRef3
theorem sGt_eq (a b : ByteArray) : (!(sLt a b || sEq a b)) = sLt b a := by
 rcases sLt_total a b with h | h | h
 ·rw [h, sLt_asymm h]; rfl
 ·subst h; rw [sLt_irrefl, sEq_self]; rfl
 ·rw [h, sLt_asymm h, sEq_false.2 (sLt_ne h).symm]; rfl
theorem lead_take {M : List On} {i : Nat} (h : i < M.length) : mpT (M.drop i) = (M[i].1, M[i].2.2) :: mpT (M.drop (i + 1)) := by
 rw [List.drop_eq_getElem_cons h]; rfl
def fromI (key : ByteArray) (above : Bool) (seq : Int) : Mp → Nat → Int
 | [], _ => -1
 | p :: r, i => if (verAt p.2 seq).isSome && (sLt key p.1 || (!above && sEq p.1 key)) then (i : Int) else fromI key above seq r (i + 1)
def pushL (bg : Int) (L : List Int) (s : Int) : Int × Int × List Int := if s ≤ lastS L then (0, 1, L) else if 1073741824 ≤ bg + (L.length : Int) then (0, 17, L) else (bg + (L.length : Int) + 1, 0, L ++ [s])
def cntI (L : List Int) (s : Int) : Nat := (L.filter fun x => decide (x ≤ s)).length
theorem cntI_succ {L : List Int} {i : Nat} (h : i < L.length) (s : Int) : cntI (L.take (i + 1)) s = cntI (L.take i) s + if L[i] ≤ s then 1 else 0 := by
 unfold cntI
 rw [List.take_succ_eq_append_getElem h, List.filter_append, List.length_append]
 by_cases hc : L[i] ≤ s <;> simp [hc]
theorem cntI_eq : ∀ {L : List Int} (h : RiseI L) (s : Int), cntI L s = leI L s
 | [], _, _ => rfl
 | x :: r, h, s => by
  have ih := cntI_eq h.2 s
  unfold cntI at *
  simp only [leI]
  by_cases hx : x ≤ s
  ·rw [if_pos hx, List.filter_cons_of_pos (by simp [hx]), List.length_cons, ih]
  ·rw [if_neg hx, List.filter_cons_of_neg (by simp [hx])]
   have : r.filter (fun x => decide (x ≤ s)) = [] := List.filter_eq_nil_iff.2 fun y hy => by
    have := h.1 y hy
    simp; omega
   rw [this]; rfl
theorem cntI_le (L : List Int) (s : Int) : cntI L s ≤ L.length := List.length_filter_le _ _
theorem rgSeq {K : RfK} {bg : Int} {hS : SH} {L : List Int} (hq : 0 ≤ bg ∧ bg + (L.length : Int) ≤ 1073741824) : Does Tryz.prog 100 [.pointer (some ⟨K.bG, 0, none⟩)] [RgP K.bG K.ring bg hS, Sl eU64 hS L] (fun v l => v = .int .i64 (bg + (L.length : Int)) ∧ l = [RgP K.bG K.ring bg hS, Sl eU64 hS L]) := by
 refine spec_of Tryz.func100 rfl Tryz.ntmps100 Tryz.results100 _ (by simp) fun ι F => ?_
 refine vc_see 1 rfl (Sl.vis.imp fun w r => r.len) (fun hlS => ?_)
 refine vc_seq ?_
 refine vc_region ?_
 refine vp ?_
 refine vc_nil ?_
 refine vc_then ?_
 refine vc_seq ?_
 refine vc_draw (by kernel_rfl) _ none [0, 0] rfl ?_
 refine tpp 0 ?_
 refine tpp 1 ?_
 refine tp 2 rfl (by exact y_fieldP fl_126_1 1 rfl rfl) ?_
 refine tk 3 rfl (by exact y_load1 0 rfl one_3 rfl (Pts.vis rfl)) ?_
 refine tpp 4 ?_
 refine tpp 5 ?_
 refine tp 6 rfl (by exact y_fieldP fl_126_2 2 rfl rfl) ?_
 refine tk 7 rfl (by exact y_load1 0 rfl one_22 rfl (Pts.vis rfl)) ?_
 refine tp 8 rfl (by exact y_len Tryz.underlying22 rfl (by first | assumption | rfl)) ?_
 first | refine tp 9 rfl (by exact y_arith _ rfl (wrap64 (by omega) (by omega))) ?_ | refine tpp 9 ?_
 refine tpp 10 ?_
 refine va_done (by kernel_rfl) ?_
 refine vc_then ?_
 refine vc_ret ?_
 exact vc_end1 Tryz.results100 rfl _ (ent_pick [0, 0] rfl) ⟨rfl, rfl⟩
theorem rfSeq {b : Nat} {K : RfK} {hO : SH} {bg : Int} {hS : SH} {L : List Int} (hq : 0 ≤ bg ∧ bg + (L.length : Int) ≤ 1073741824) : Does Tryz.prog 37 [.pointer (some ⟨b, 0, none⟩)] [RfP b K hO, RgP K.bG K.ring bg hS, Sl eU64 hS L] (fun v l => v = .int .i64 (bg + (L.length : Int)) ∧ l = [RfP b K hO, RgP K.bG K.ring bg hS, Sl eU64 hS L]) := by
 refine spec_of Tryz.func37 rfl Tryz.ntmps37 Tryz.results37 _ (by simp) fun ι F => ?_
 refine vc_seq ?_
 refine vc_region ?_
 refine vp ?_
 refine vc_nil ?_
 refine vc_then ?_
 refine vc_seq ?_
 refine vc_region ?_
 refine vp ?_
 refine vp ?_
 refine vc_y (y_fieldP fl_67_1 4 rfl rfl) rfl ?_
 refine vc_y (y_load1 0 rfl one_64 rfl (Pts.vis rfl)) rfl ?_
 refine vc_callv ca_100 (us := []) (vs := []) rfl [_] rfl [1, 1] rfl (rgSeq hq) rfl ?_
 rintro _ _ ⟨rfl, rfl⟩
 refine vp ?_
 refine vc_nil ?_
 refine vc_then ?_
 refine vc_ret ?_
 exact vc_end1 Tryz.results37 rfl _ (ent_pick [2, 0, 0] rfl) ⟨rfl, rfl⟩
theorem rfFloor {b : Nat} {K : RfK} {hO : SH} {bg : Int} {hS : SH} {L : List Int} (hq : 0 ≤ bg ∧ bg + (L.length : Int) ≤ 1073741824) (hr : 1 ≤ K.ring ∧ K.ring ≤ 16) : Does Tryz.prog 90 [.pointer (some ⟨b, 0, none⟩)] [RfP b K hO, RgP K.bG K.ring bg hS, Sl eU64 hS L] (fun v l => v = .int .i64 (max (bg + (L.length : Int) - K.ring + 1) bg) ∧ l = [RfP b K hO, RgP K.bG K.ring bg hS, Sl eU64 hS L]) := by
 refine spec_of Tryz.func90 rfl Tryz.ntmps90 Tryz.results90 _ (by simp) fun ι F => ?_
 refine vc_seq ?_
 refine vc_region ?_
 refine vp ?_
 refine vc_nil ?_
 refine vc_then ?_
 refine vc_seq ?_
 refine vc_draw (by kernel_rfl) _ none [0, 0, 0] rfl ?_
 refine tpp 0 ?_
 refine tpp 2 ?_
 refine tpp 3 ?_
 refine tp 4 rfl (by exact y_fieldP fl_67_0 0 rfl rfl) ?_
 refine tp 5 rfl (by exact y_fieldP fl_24_1 1 rfl rfl) ?_
 refine tk 6 rfl (by exact y_load1 0 rfl one_3 rfl (Pts.vis rfl)) ?_
 refine va_ready [1] (by kernel_rfl) rfl ?_
 refine vo_cons rfl (fun hC0 => ?_) ?_
 ·skip
  refine vc_callv ca_37 (us := []) (vs := []) rfl [_] rfl [0, 0, 0] rfl (rfSeq hq) rfl ?_
  rintro _ _ ⟨rfl, rfl⟩
  refine vc_nil ?_
  refine vc_then ?_
  refine va_kept hC0 [0, 0, 0] rfl ?_
  clear hC0
  first | refine tp 7 rfl (by exact y_arith _ rfl (wrap64 (by omega) (by omega))) ?_ | refine tpp 7 ?_
  first | refine tp 8 rfl (by exact y_arith _ rfl (wrapNadd (by omega))) ?_ | refine tp 8 rfl (by exact y_arith _ rfl (wrap64 (by omega) (by omega))) ?_ | refine tpp 8 ?_
  refine tpp 9 ?_
  refine va_done (by kernel_rfl) ?_
  refine vc_then ?_
  refine vc_seq ?_
  refine vc_seq ?_
  refine vc_region ?_
  iterate 3 refine vp ?_
  refine vc_y (y_fieldP fl_67_1 4 rfl rfl) rfl ?_
  refine vc_y (y_load1 0 rfl one_64 rfl (Pts.vis rfl)) rfl ?_
  refine vp ?_
  refine vc_y (y_fieldP fl_126_1 1 rfl rfl) rfl ?_
  refine vc_y (y_load1 1 rfl one_3 rfl (Pts.vis rfl)) rfl ?_
  refine vp ?_
  refine vc_nil ?_
  refine vc_then ?_
  first | refine vc_condP rfl (fun c21 => ?_) (fun c21 => ?_) | refine vc_condN rfl (fun c21 => ?_) (fun c21 => ?_) | refine vc_cond rfl (fun c21 => ?_) (fun c21 => ?_)
  ·skip
   refine vc_seq ?_
   refine vc_region ?_
   refine vp ?_
   refine vp ?_
   refine vc_y (y_fieldP fl_67_1 4 rfl rfl) rfl ?_
   refine vc_y (y_load1 0 rfl one_64 rfl (Pts.vis rfl)) rfl ?_
   refine vp ?_
   refine vc_y (y_fieldP fl_126_1 1 rfl rfl) rfl ?_
   refine vc_y (y_load1 1 rfl one_3 rfl (Pts.vis rfl)) rfl ?_
   refine vp ?_
   refine vc_nil ?_
   refine vc_then ?_
   refine vc_ret ?_
   refine vc_thenRet ?_
   exact vc_end1 Tryz.results90 rfl _ (ent_pick [0, 0, 0] rfl) ⟨by congr 1; omega, rfl⟩
  ·skip
   refine vc_skip ?_
   refine vc_then ?_
   refine vc_seq ?_
   refine vc_region ?_
   refine vp ?_
   refine vp ?_
   refine vc_nil ?_
   refine vc_then ?_
   refine vc_ret ?_
   exact vc_end1 Tryz.results90 rfl _ (ent_pick [0, 0, 0] rfl) ⟨by congr 1; omega, rfl⟩
 exact vo_nil
theorem rfVers {b : Nat} {K : RfK} {hO : SH} {T : List On} (hT : TOk T) : Does Tryz.prog 91 [.pointer (some ⟨b, 0, none⟩)] (RfL b K hO T) (fun v l => v = .int .i64 (versM (mpT T)) ∧ l = RfL b K hO T) := by
 refine spec_of Tryz.func91 rfl Tryz.ntmps91 Tryz.results91 _ (by simp) fun ι F => ?_
 refine vc_see 1 rfl (RoSl.vis.imp fun w r => r.len) (fun hlen => ?_)
 refine vc_seq ?_
 refine vc_region ?_
 refine vp ?_
 refine vc_nil ?_
 refine vc_then ?_
 refine vc_seq ?_
 refine vc_region ?_
 refine vp ?_
 refine vc_nil ?_
 refine vc_then ?_
 refine vc_seq ?_
 refine vc_seq ?_
 refine vc_region ?_
 refine vp ?_
 refine vc_nil ?_
 refine vc_then ?_
 refine vc_block ?_
 refine vc_loop (α := Nat × Int) (fun xq_ => match xq_ with | (i, n) => [(0, .pointer (some ⟨b, 0, none⟩)), (3, .int .i64 n), (4, .int .i64 (i : Int))]) (fun xq_ => match xq_ with | (i, n) => RfL b K hO T) (fun xq_ => match xq_ with | (i, n) => T.length - i) (fun xq_ => match xq_ with | (i, n) => i ≤ T.length ∧ n = versM (mpT (T.take i))) (0, 0) ⟨Nat.zero_le _, by simp [mpT, versM, sumM]⟩ ⟨rfl, rfl, rfl, trivial⟩ (ent_pick [0, 0, 0] rfl) ?_
 rintro ⟨i, n⟩ ⟨hi, hn⟩
 show VC _ _ _ _ [(0, .pointer (some ⟨b, 0, none⟩)), (3, .int .i64 n), (4, .int .i64 (i : Int))] (RfL b K hO T)
 refine vc_seq ?_
 refine vc_seq ?_
 refine vc_region ?_
 iterate 3 refine vp ?_
 refine vc_y (y_fieldP fl_67_2 5 rfl rfl) rfl ?_
 refine vc_y (y_load1 0 rfl one_65 rfl (Pts.vis rfl)) rfl ?_
 refine vc_y (y_len Tryz.underlying65 rfl (by first | assumption | rfl)) rfl ?_
 refine vp ?_
 refine vc_nil ?_
 refine vc_then ?_
 first | refine vc_condP rfl (fun c11 => ?_) (fun c11 => ?_) | refine vc_condN rfl (fun c11 => ?_) (fun c11 => ?_) | refine vc_cond rfl (fun c11 => ?_) (fun c11 => ?_)
 ·skip
  have hi2 : i < T.length := by omega
  have hb := (hT.take i).vers
  rw [← hn] at hb
  have hb2 := hT.len _ (List.getElem_mem hi2)
  have hb3 := hT.n
  rw [List.length_take] at hb
  refine vc_skip ?_
  refine vc_then ?_
  refine vc_seq ?_
  refine vc_block ?_
  refine vc_region ?_
  iterate 3 refine vp ?_
  refine vc_y (y_fieldP fl_67_2 5 rfl rfl) rfl ?_
  refine vc_y (y_load1 0 rfl one_65 rfl (Pts.vis rfl)) rfl ?_
  refine vp ?_
  refine vc_y (y_elem 1 rfl (RoSl.vis) i rfl hi2 sl_65 rfl rfl) rfl ?_
  refine vc_y (y_fieldE fl_152_1 1 rfl rfl) rfl ?_
  refine vc_y (y_load1 1 rfl one_138 rfl (Rd.vis1 (RoSl.vis) (List.getElem?_eq_getElem (by first | assumption | omega)) rfl)) rfl ?_
  refine vc_see 2 rfl ((RoM.vis (List.getElem_mem hi2)).imp fun w r => r.len) (fun hlc => ?_)
  refine vc_y (y_len Tryz.underlying138 rfl (by first | assumption | rfl)) rfl ?_
  first | refine vc_y (y_arith _ rfl (wrap64 (by omega) (by omega))) rfl ?_ | refine vp ?_
  refine vp ?_
  refine vc_nil ?_
  refine vc_inNormal ?_
  refine vc_then ?_
  refine vc_region ?_
  refine vp ?_
  first | refine vc_y (y_arith _ rfl (wrapNadd (by omega))) rfl ?_ | refine vc_y (y_arith _ rfl (wrap64 (by omega) (by omega))) rfl ?_ | refine vp ?_
  refine vp ?_
  refine vc_nil ?_
  refine vc_then ?_
  exact vc_again (x := (i, n)) (i + 1, n + (T[i].2.2.length : Int)) ⟨hi2, by rw [hn]; unfold versM; rw [sumM_succ _ hi2]⟩ (by show T.length - (i + 1) < T.length - i; omega) ⟨rfl, rfl, rfl, trivial⟩ (ent_pick [0, 0, 0] rfl)
 ·skip
  obtain rfl : i = T.length := by omega
  rw [List.take_length] at hn
  refine vc_exit ?_
  refine vc_thenExit ?_
  refine vc_thenExit ?_
  refine vc_inExit ?_
  refine vc_then ?_
  refine vc_seq ?_
  refine vc_region ?_
  refine vp ?_
  refine vp ?_
  refine vc_nil ?_
  refine vc_then ?_
  refine vc_ret ?_
  exact vc_end1 Tryz.results91 rfl _ (ent_pick [0, 0, 0] rfl) ⟨by rw [hn], rfl⟩
theorem rfLive {b : Nat} {K : RfK} {hO : SH} {T : List On} (hT : TOk T) : Does Tryz.prog 89 [.pointer (some ⟨b, 0, none⟩)] (RfL b K hO T) (fun v l => v = .int .i64 (liveM (mpT T)) ∧ l = RfL b K hO T) := by
 refine spec_of Tryz.func89 rfl Tryz.ntmps89 Tryz.results89 _ (by simp) fun ι F => ?_
 refine vc_see 1 rfl (RoSl.vis.imp fun w r => r.len) (fun hlen => ?_)
 refine vc_seq ?_
 refine vc_region ?_
 refine vp ?_
 refine vc_nil ?_
 refine vc_then ?_
 refine vc_seq ?_
 refine vc_region ?_
 refine vp ?_
 refine vc_nil ?_
 refine vc_then ?_
 refine vc_seq ?_
 refine vc_seq ?_
 refine vc_region ?_
 refine vp ?_
 refine vc_nil ?_
 refine vc_then ?_
 refine vc_block ?_
 refine vc_loop (α := Nat × Int) (fun xq_ => match xq_ with | (i, n) => [(0, .pointer (some ⟨b, 0, none⟩)), (3, .int .i64 n), (4, .int .i64 (i : Int))]) (fun xq_ => match xq_ with | (i, n) => RfL b K hO T) (fun xq_ => match xq_ with | (i, n) => T.length - i) (fun xq_ => match xq_ with | (i, n) => i ≤ T.length ∧ n = liveM (mpT (T.take i))) (0, 0) ⟨Nat.zero_le _, by simp [mpT, liveM, sumM]⟩ ⟨rfl, rfl, rfl, trivial⟩ (ent_pick [0, 0, 0] rfl) ?_
 rintro ⟨i, n⟩ ⟨hi, hn⟩
 show VC _ _ _ _ [(0, .pointer (some ⟨b, 0, none⟩)), (3, .int .i64 n), (4, .int .i64 (i : Int))] (RfL b K hO T)
 refine vc_seq ?_
 refine vc_seq ?_
 refine vc_region ?_
 iterate 3 refine vp ?_
 refine vc_y (y_fieldP fl_67_2 5 rfl rfl) rfl ?_
 refine vc_y (y_load1 0 rfl one_65 rfl (Pts.vis rfl)) rfl ?_
 refine vc_y (y_len Tryz.underlying65 rfl (by first | assumption | rfl)) rfl ?_
 refine vp ?_
 refine vc_nil ?_
 refine vc_then ?_
 first | refine vc_condP rfl (fun c12 => ?_) (fun c12 => ?_) | refine vc_condN rfl (fun c12 => ?_) (fun c12 => ?_) | refine vc_cond rfl (fun c12 => ?_) (fun c12 => ?_)
 ·skip
  have hi2 : i < T.length := by omega
  have hb := (hT.take i).live
  rw [← hn] at hb
  have hb2 := hT.k _ (List.getElem_mem hi2)
  have hb3 := hT.n
  have hb4 := cWeight_le T[i].2.2
  rw [List.length_take] at hb
  refine vc_skip ?_
  refine vc_then ?_
  refine vc_seq ?_
  refine vc_block ?_
  refine vc_seq ?_
  refine vc_region ?_
  refine vp ?_
  refine vp ?_
  refine vc_y (y_fieldP fl_67_2 5 rfl rfl) rfl ?_
  refine vc_y (y_load1 0 rfl one_65 rfl (Pts.vis rfl)) rfl ?_
  refine vp ?_
  refine vc_y (y_elem 1 rfl (RoSl.vis) i rfl hi2 sl_65 rfl rfl) rfl ?_
  refine vc_y (y_fieldE fl_152_1 1 rfl rfl) rfl ?_
  refine vc_y (y_load1 1 rfl one_138 rfl (Rd.vis1 (RoSl.vis) (List.getElem?_eq_getElem (by first | assumption | omega)) rfl)) rfl ?_
  refine vc_callv ca_136 (us := []) (vs := []) rfl [_] rfl [2] rfl (refWeight_spec (RoM.vis (List.getElem_mem hi2)) (by have := hT.len _ (List.getElem_mem hi2); omega) (hT.c _ (List.getElem_mem hi2))) rfl ?_
  rintro _ _ ⟨rfl, rfl⟩
  refine vp ?_
  refine vc_nil ?_
  refine vc_then ?_
  refine vc_seq ?_
  refine vc_region ?_
  refine vp ?_
  refine vp ?_
  refine vc_nil ?_
  refine vc_then ?_
  first | refine vc_condP rfl (fun c25 => ?_) (fun c25 => ?_) | refine vc_condN rfl (fun c25 => ?_) (fun c25 => ?_) | refine vc_cond rfl (fun c25 => ?_) (fun c25 => ?_)
  ·skip
   refine vc_region ?_
   refine vp ?_
   refine vp ?_
   first | refine vc_y (y_arith _ rfl (wrap64 (by omega) (by omega))) rfl ?_ | refine vp ?_
   refine vp ?_
   refine vp ?_
   refine vc_y (y_fieldP fl_67_2 5 rfl rfl) rfl ?_
   refine vc_y (y_load1 1 rfl one_65 rfl (Pts.vis rfl)) rfl ?_
   refine vp ?_
   refine vc_y (y_elem 2 rfl (RoSl.vis) i rfl hi2 sl_65 rfl rfl) rfl ?_
   refine vc_y (y_fieldE fl_152_0 0 rfl rfl) rfl ?_
   refine vc_y (y_load1 2 rfl one_9 rfl (Rd.vis1 (RoSl.vis) (List.getElem?_eq_getElem (by first | assumption | omega)) rfl)) rfl ?_
   refine vc_y (y_strLen Tryz.underlying9 rfl) rfl ?_
   first | refine vc_y (y_arith _ rfl (wrap64 (by omega) (by omega))) rfl ?_ | refine vp ?_
   refine vp ?_
   refine vc_nil ?_
   refine vc_inNormal ?_
   refine vc_then ?_
   refine vc_region ?_
   refine vp ?_
   first | refine vc_y (y_arith _ rfl (wrapNadd (by omega))) rfl ?_ | refine vc_y (y_arith _ rfl (wrap64 (by omega) (by omega))) rfl ?_ | refine vp ?_
   refine vp ?_
   refine vc_nil ?_
   refine vc_then ?_
   first | exact vc_again (x := (i, n)) (i + 1, n + cWeight T[i].2.2 + (T[i].1.size : Int)) ⟨hi2, by rw [hn]; unfold liveM; rw [sumM_succ _ hi2]; simp only [lives]; rw [if_neg (by omega)]; omega⟩ (by show T.length - (i + 1) < T.length - i; omega) ⟨rfl, rfl, rfl, trivial⟩ (ent_pick [1, 1, 0] rfl) | exact vc_again (x := (i, n)) (i + 1, n) ⟨hi2, by rw [hn]; unfold liveM; rw [sumM_succ _ hi2]; simp only [lives]; rw [if_pos (by omega)]; omega⟩ (by show T.length - (i + 1) < T.length - i; omega) ⟨rfl, rfl, rfl, trivial⟩ (ent_pick [1, 1, 0] rfl)
  ·skip
   refine vc_skip ?_
   refine vc_inNormal ?_
   refine vc_then ?_
   refine vc_region ?_
   refine vp ?_
   first | refine vc_y (y_arith _ rfl (wrapNadd (by omega))) rfl ?_ | refine vc_y (y_arith _ rfl (wrap64 (by omega) (by omega))) rfl ?_ | refine vp ?_
   refine vp ?_
   refine vc_nil ?_
   refine vc_then ?_
   first | exact vc_again (x := (i, n)) (i + 1, n + cWeight T[i].2.2 + (T[i].1.size : Int)) ⟨hi2, by rw [hn]; unfold liveM; rw [sumM_succ _ hi2]; simp only [lives]; rw [if_neg (by omega)]; omega⟩ (by show T.length - (i + 1) < T.length - i; omega) ⟨rfl, rfl, rfl, trivial⟩ (ent_pick [1, 1, 0] rfl) | exact vc_again (x := (i, n)) (i + 1, n) ⟨hi2, by rw [hn]; unfold liveM; rw [sumM_succ _ hi2]; simp only [lives]; rw [if_pos (by omega)]; omega⟩ (by show T.length - (i + 1) < T.length - i; omega) ⟨rfl, rfl, rfl, trivial⟩ (ent_pick [1, 1, 0] rfl)
 ·skip
  obtain rfl : i = T.length := by omega
  rw [List.take_length] at hn
  refine vc_exit ?_
  refine vc_thenExit ?_
  refine vc_thenExit ?_
  refine vc_inExit ?_
  refine vc_then ?_
  refine vc_seq ?_
  refine vc_region ?_
  refine vp ?_
  refine vp ?_
  refine vc_nil ?_
  refine vc_then ?_
  refine vc_ret ?_
  exact vc_end1 Tryz.results89 rfl _ (ent_pick [0, 0, 0] rfl) ⟨by rw [hn], rfl⟩
theorem rfChain {b : Nat} {K : RfK} {hO : SH} {T : List On} (hn : T.length ≤ 200000) (key : ByteArray) : Does Tryz.prog 97 [.pointer (some ⟨b, 0, none⟩), .string key] (RfL b K hO T) (fun v l => v = (onT T key).2.1.v ∧ l = RfL b K hO T) := by
 refine spec_of Tryz.func97 rfl Tryz.ntmps97 Tryz.results97 _ (by simp) fun ι F => ?_
 refine vc_see 1 rfl (RoSl.vis.imp fun w r => r.len) (fun hlen => ?_)
 refine vc_seq ?_
 refine vc_region ?_
 refine vp ?_
 refine vc_nil ?_
 refine vc_then ?_
 refine vc_seq ?_
 refine vc_seq ?_
 refine vc_region ?_
 refine vp ?_
 refine vc_nil ?_
 refine vc_then ?_
 refine vc_block ?_
 refine vc_loop (α := Nat) (fun xq_ => match xq_ with | i => [(0, .pointer (some ⟨b, 0, none⟩)), (1, .string key), (5, .int .i64 (i : Int))]) (fun xq_ => match xq_ with | i => RfL b K hO T) (fun xq_ => match xq_ with | i => T.length - i) (fun xq_ => match xq_ with | i => i ≤ T.length ∧ (T.find? fun p => sEq p.1 key) = (T.drop i).find? fun p => sEq p.1 key) 0 ⟨Nat.zero_le _, rfl⟩ ⟨rfl, rfl, rfl, trivial⟩ (ent_pick [0, 0, 0] rfl) ?_
 rintro i ⟨hi, hf⟩
 show VC _ _ _ _ [(0, .pointer (some ⟨b, 0, none⟩)), (1, .string key), (5, .int .i64 (i : Int))] (RfL b K hO T)
 refine vc_seq ?_
 refine vc_seq ?_
 refine vc_region ?_
 iterate 3 refine vp ?_
 refine vc_y (y_fieldP fl_67_2 5 rfl rfl) rfl ?_
 refine vc_y (y_load1 0 rfl one_65 rfl (Pts.vis rfl)) rfl ?_
 refine vc_y (y_len Tryz.underlying65 rfl (by first | assumption | rfl)) rfl ?_
 refine vp ?_
 refine vc_nil ?_
 refine vc_then ?_
 first | refine vc_condP rfl (fun c12 => ?_) (fun c12 => ?_) | refine vc_condN rfl (fun c12 => ?_) (fun c12 => ?_) | refine vc_cond rfl (fun c12 => ?_) (fun c12 => ?_)
 ·skip
  have hi2 : i < T.length := by omega
  refine vc_skip ?_
  refine vc_then ?_
  refine vc_seq ?_
  refine vc_block ?_
  refine vc_seq ?_
  refine vc_region ?_
  refine vp ?_
  refine vp ?_
  refine vc_y (y_fieldP fl_67_2 5 rfl rfl) rfl ?_
  refine vc_y (y_load1 0 rfl one_65 rfl (Pts.vis rfl)) rfl ?_
  refine vp ?_
  refine vc_y (y_elem 1 rfl (RoSl.vis) i rfl hi2 sl_65 rfl rfl) rfl ?_
  refine vc_y (y_fieldE fl_152_0 0 rfl rfl) rfl ?_
  refine vc_y (y_load1 1 rfl one_9 rfl (Rd.vis1 (RoSl.vis) (List.getElem?_eq_getElem (by first | assumption | omega)) rfl)) rfl ?_
  refine vp ?_
  refine vp ?_
  refine vc_nil ?_
  refine vc_then ?_
  first | refine vc_condP rfl (fun c24 => ?_) (fun c24 => ?_) | refine vc_condN rfl (fun c24 => ?_) (fun c24 => ?_) | refine vc_cond rfl (fun c24 => ?_) (fun c24 => ?_)
  ·skip
   refine vc_seq ?_
   refine vc_region ?_
   refine vp ?_
   refine vp ?_
   refine vc_y (y_fieldP fl_67_2 5 rfl rfl) rfl ?_
   refine vc_y (y_load1 0 rfl one_65 rfl (Pts.vis rfl)) rfl ?_
   refine vp ?_
   refine vc_y (y_elem 1 rfl (RoSl.vis) i rfl hi2 sl_65 rfl rfl) rfl ?_
   refine vc_y (y_fieldE fl_152_1 1 rfl rfl) rfl ?_
   refine vc_y (y_load1 1 rfl one_138 rfl (Rd.vis1 (RoSl.vis) (List.getElem?_eq_getElem (by first | assumption | omega)) rfl)) rfl ?_
   refine vp ?_
   refine vc_nil ?_
   refine vc_then ?_
   refine vc_ret ?_
   refine vc_inRet ?_
   refine vc_thenRet ?_
   refine vc_thenRet ?_
   refine vc_inRet ?_
   refine vc_thenRet ?_
   exact vc_end1 Tryz.results97 rfl _ (ent_pick [0, 0, 0] rfl) ⟨by unfold onT; rw [hf, List.drop_eq_getElem_cons hi2, List.find?_cons_of_pos (by simpa using c24)]; rfl, rfl⟩
  ·skip
   refine vc_skip ?_
   refine vc_inNormal ?_
   refine vc_then ?_
   refine vc_region ?_
   refine vp ?_
   first | refine vc_y (y_arith _ rfl (wrapNadd (by omega))) rfl ?_ | refine vc_y (y_arith _ rfl (wrap64 (by omega) (by omega))) rfl ?_ | refine vp ?_
   refine vp ?_
   refine vc_nil ?_
   refine vc_then ?_
   exact vc_again (x := i) (i + 1) ⟨hi2, by rw [hf, List.drop_eq_getElem_cons hi2, List.find?_cons_of_neg (by simpa using c24)]⟩ (by show T.length - (i + 1) < T.length - i; omega) ⟨rfl, rfl, rfl, trivial⟩ (ent_pick [0, 0, 0] rfl)
 ·skip
  obtain rfl : i = T.length := by omega
  refine vc_exit ?_
  refine vc_thenExit ?_
  refine vc_thenExit ?_
  refine vc_inExit ?_
  refine vc_then ?_
  refine vc_seq ?_
  refine vc_region ?_
  refine vp ?_
  refine vc_nil ?_
  refine vc_then ?_
  refine vc_ret ?_
  exact vc_end1 Tryz.results97 rfl _ (ent_pick [0, 0, 0] rfl) ⟨by unfold onT; rw [hf, List.drop_length]; rfl, rfl⟩
theorem rfFrom {b : Nat} {K : RfK} {hO : SH} {T : List On} (hT : TOk T) (key : ByteArray) (above : Bool) (seq : Int) : Does Tryz.prog 98 [.pointer (some ⟨b, 0, none⟩), .string key, .bool above, .int .i64 seq] (RfL b K hO T) (fun v l => v = .int .i64 (fromI key above seq (mpT T) 0) ∧ l = RfL b K hO T) := by
 refine spec_of Tryz.func98 rfl Tryz.ntmps98 Tryz.results98 _ (by simp) fun ι F => ?_
 refine vc_see 1 rfl (RoSl.vis.imp fun w r => r.len) (fun hlen => ?_)
 refine vc_seq ?_
 refine vc_region ?_
 refine vp ?_
 refine vc_nil ?_
 refine vc_then ?_
 refine vc_seq ?_
 refine vc_seq ?_
 refine vc_region ?_
 refine vp ?_
 refine vc_nil ?_
 refine vc_then ?_
 refine vc_block ?_
 refine vc_loop (α := Nat) (fun xq_ => match xq_ with | i => [(0, .pointer (some ⟨b, 0, none⟩)), (1, .string key), (2, .bool above), (3, .int .i64 seq), (9, .int .i64 (i : Int))]) (fun xq_ => match xq_ with | i => RfL b K hO T) (fun xq_ => match xq_ with | i => T.length - i) (fun xq_ => match xq_ with | i => i ≤ T.length ∧ fromI key above seq (mpT T) 0 = fromI key above seq (mpT (T.drop i)) i) 0 ⟨Nat.zero_le _, rfl⟩ ⟨rfl, rfl, rfl, rfl, rfl, trivial⟩ (ent_pick [0, 0, 0] rfl) ?_
 rintro i ⟨hi, hf⟩
 show VC _ _ _ _ [(0, .pointer (some ⟨b, 0, none⟩)), (1, .string key), (2, .bool above), (3, .int .i64 seq), (9, .int .i64 (i : Int))] (RfL b K hO T)
 refine vc_seq ?_
 refine vc_seq ?_
 refine vc_region ?_
 iterate 3 refine vp ?_
 refine vc_y (y_fieldP fl_67_2 5 rfl rfl) rfl ?_
 refine vc_y (y_load1 0 rfl one_65 rfl (Pts.vis rfl)) rfl ?_
 refine vc_y (y_len Tryz.underlying65 rfl (by first | assumption | rfl)) rfl ?_
 refine vp ?_
 refine vc_nil ?_
 refine vc_then ?_
 first | refine vc_condP rfl (fun c18 => ?_) (fun c18 => ?_) | refine vc_condN rfl (fun c18 => ?_) (fun c18 => ?_) | refine vc_cond rfl (fun c18 => ?_) (fun c18 => ?_)
 ·skip
  have hi2 : i < T.length := by omega
  have hb3 := hT.n
  have hf2 : fromI key above seq (mpT T) 0 = if (verAt T[i].2.2 seq).isSome && (sLt key T[i].1 || (!above && sEq T[i].1 key)) then (i : Int) else fromI key above seq (mpT (T.drop (i + 1))) (i + 1) := by rw [hf, lead_take hi2]; rfl
  refine vc_skip ?_
  refine vc_then ?_
  refine vc_seq ?_
  refine vc_block ?_
  refine vc_seq ?_
  refine vc_region ?_
  refine vp ?_
  refine vp ?_
  refine vc_y (y_fieldP fl_67_2 5 rfl rfl) rfl ?_
  refine vc_y (y_load1 0 rfl one_65 rfl (Pts.vis rfl)) rfl ?_
  refine vp ?_
  refine vc_y (y_elem 1 rfl (RoSl.vis) i rfl hi2 sl_65 rfl rfl) rfl ?_
  refine vc_y (y_fieldE fl_152_1 1 rfl rfl) rfl ?_
  refine vc_y (y_load1 1 rfl one_138 rfl (Rd.vis1 (RoSl.vis) (List.getElem?_eq_getElem (by first | assumption | omega)) rfl)) rfl ?_
  refine vp ?_
  refine vc_callv ca_96 (us := []) (vs := []) rfl [_, _] rfl [2] rfl (refAt_spec (RoM.vis (List.getElem_mem hi2)) (by have := hT.len _ (List.getElem_mem hi2); omega) (hT.c _ (List.getElem_mem hi2)) seq) rfl ?_
  rintro _ _ ⟨rfl, rfl⟩
  iterate 3 refine vp ?_
  refine vc_alloc [.int .i64 0, .bool false, .bool false, .string ⟨#[]⟩, .int .u64 0] ze_135 rfl rfl (fun b10 => ?_)
  refine vc_storeP 0 rfl [_, _, _, _, _] [_, _, _, _, _] rfl rfl rfl sz_135 rfl rfl rfl ?_
  refine vp ?_
  refine vc_nil ?_
  refine vc_then ?_
  refine vc_seq ?_
  refine vc_region ?_
  refine vp ?_
  refine vp ?_
  first | refine vc_splitP 35 rfl (fun c35 => ?_) (fun c35 => ?_) | refine vc_splitN 35 rfl (fun c35 => ?_) (fun c35 => ?_) | refine vc_split 35 rfl (fun c35 => ?_) (fun c35 => ?_)
  ·skip
   refine vc_guardT 35 rfl rfl ?_
   refine vp ?_
   refine vc_guardT 35 rfl rfl ?_
   refine vp ?_
   refine vc_guardT 35 rfl rfl ?_
   refine vc_y (y_fieldP fl_67_2 5 rfl rfl) rfl ?_
   refine vc_guardT 35 rfl rfl ?_
   refine vc_y (y_load1 2 rfl one_65 rfl (Pts.vis rfl)) rfl ?_
   refine vc_guardT 35 rfl rfl ?_
   refine vp ?_
   refine vc_guardT 35 rfl rfl ?_
   refine vc_y (y_elem 3 rfl (RoSl.vis) i rfl hi2 sl_65 rfl rfl) rfl ?_
   refine vc_guardT 35 rfl rfl ?_
   refine vc_y (y_fieldE fl_152_0 0 rfl rfl) rfl ?_
   refine vc_guardT 35 rfl rfl ?_
   refine vc_y (y_load1 3 rfl one_9 rfl (Rd.vis1 (RoSl.vis) (List.getElem?_eq_getElem (by first | assumption | omega)) rfl)) rfl ?_
   refine vc_guardT 35 rfl rfl ?_
   refine vp ?_
   refine vc_guardT 35 rfl rfl ?_
   refine vp ?_
   refine vc_guardT 35 rfl rfl ?_
   refine vp ?_
   first | refine vc_splitP 46 rfl (fun c46 => ?_) (fun c46 => ?_) | refine vc_splitN 46 rfl (fun c46 => ?_) (fun c46 => ?_) | refine vc_split 46 rfl (fun c46 => ?_) (fun c46 => ?_)
   ·skip
    rw [sGt_eq] at c46
    refine vc_guardF 46 rfl rfl rfl rfl ?_
    refine vc_guardF 46 rfl rfl rfl rfl ?_
    refine vc_guardF 46 rfl rfl rfl rfl ?_
    refine vc_guardU 49 rfl rfl rfl ?_
    refine vc_guardU 49 rfl rfl rfl ?_
    refine vc_guardU 49 rfl rfl rfl ?_
    refine vc_guardU 49 rfl rfl rfl ?_
    refine vc_guardU 49 rfl rfl rfl ?_
    refine vc_guardU 49 rfl rfl rfl ?_
    refine vc_guardU 49 rfl rfl rfl ?_
    refine vc_guardU 49 rfl rfl rfl ?_
    refine vc_guardU 49 rfl rfl rfl ?_
    refine vc_guardU 49 rfl rfl rfl ?_
    refine vc_guardF 46 rfl rfl rfl rfl ?_
    refine vc_guardT 35 rfl rfl ?_
    refine vp ?_
    refine vp ?_
    refine vc_nil ?_
    refine vc_then ?_
    refine vc_condT rfl ?_
    refine vc_seq ?_
    refine vc_region ?_
    refine vp ?_
    refine vp ?_
    refine vc_nil ?_
    refine vc_then ?_
    refine vc_ret ?_
    refine vc_inRet ?_
    refine vc_thenRet ?_
    refine vc_thenRet ?_
    refine vc_inRet ?_
    refine vc_thenRet ?_
    exact vc_end1 Tryz.results98 rfl _ (ent_pick [2, 2, 1] rfl) ⟨by first | (rw [hf, List.drop_length]; rfl) | (rw [hf2, if_pos (by simp [*])]), rfl⟩
   ·skip
    rw [sGt_eq] at c46
    refine vc_guardT 46 rfl rfl ?_
    refine vp ?_
    refine vc_guardT 46 rfl rfl ?_
    refine vp ?_
    refine vc_guardT 46 rfl rfl ?_
    refine vp ?_
    first | refine vc_splitP 49 rfl (fun c49 => ?_) (fun c49 => ?_) | refine vc_splitN 49 rfl (fun c49 => ?_) (fun c49 => ?_) | refine vc_split 49 rfl (fun c49 => ?_) (fun c49 => ?_)
    ·skip
     refine vc_guardT 49 rfl rfl ?_
     refine vp ?_
     refine vc_guardT 49 rfl rfl ?_
     refine vp ?_
     refine vc_guardT 49 rfl rfl ?_
     refine vc_y (y_fieldP fl_67_2 5 rfl rfl) rfl ?_
     refine vc_guardT 49 rfl rfl ?_
     refine vc_y (y_load1 2 rfl one_65 rfl (Pts.vis rfl)) rfl ?_
     refine vc_guardT 49 rfl rfl ?_
     refine vp ?_
     refine vc_guardT 49 rfl rfl ?_
     refine vc_y (y_elem 3 rfl (RoSl.vis) i rfl hi2 sl_65 rfl rfl) rfl ?_
     refine vc_guardT 49 rfl rfl ?_
     refine vc_y (y_fieldE fl_152_0 0 rfl rfl) rfl ?_
     refine vc_guardT 49 rfl rfl ?_
     refine vc_y (y_load1 3 rfl one_9 rfl (Rd.vis1 (RoSl.vis) (List.getElem?_eq_getElem (by first | assumption | omega)) rfl)) rfl ?_
     refine vc_guardT 49 rfl rfl ?_
     refine vp ?_
     refine vc_guardT 49 rfl rfl ?_
     refine vp ?_
     refine vc_guardT 46 rfl rfl ?_
     refine vp ?_
     refine vc_guardT 35 rfl rfl ?_
     refine vp ?_
     refine vp ?_
     refine vc_nil ?_
     refine vc_then ?_
     first | refine vc_condP rfl (fun c62 => ?_) (fun c62 => ?_) | refine vc_condN rfl (fun c62 => ?_) (fun c62 => ?_) | refine vc_cond rfl (fun c62 => ?_) (fun c62 => ?_)
     ·skip
      refine vc_seq ?_
      refine vc_region ?_
      refine vp ?_
      refine vp ?_
      refine vc_nil ?_
      refine vc_then ?_
      refine vc_ret ?_
      refine vc_inRet ?_
      refine vc_thenRet ?_
      refine vc_thenRet ?_
      refine vc_inRet ?_
      refine vc_thenRet ?_
      exact vc_end1 Tryz.results98 rfl _ (ent_pick [2, 2, 1] rfl) ⟨by first | (rw [hf, List.drop_length]; rfl) | (rw [hf2, if_pos (by simp [*])]), rfl⟩
     ·skip
      refine vc_skip ?_
      refine vc_inNormal ?_
      refine vc_then ?_
      refine vc_region ?_
      refine vp ?_
      first | refine vc_y (y_arith _ rfl (wrapNadd (by omega))) rfl ?_ | refine vc_y (y_arith _ rfl (wrap64 (by omega) (by omega))) rfl ?_ | refine vp ?_
      refine vp ?_
      refine vc_nil ?_
      refine vc_then ?_
      exact vc_again (x := i) (i + 1) ⟨hi2, by rw [hf2]; refine if_neg ?_; simp [*]⟩ (by show T.length - (i + 1) < T.length - i; omega) ⟨rfl, rfl, rfl, rfl, rfl, trivial⟩ (ent_pick [2, 2, 1] rfl)
    ·skip
     refine vc_guardF 49 rfl rfl rfl rfl ?_
     refine vc_guardF 49 rfl rfl rfl rfl ?_
     refine vc_guardF 49 rfl rfl rfl rfl ?_
     refine vc_guardF 49 rfl rfl rfl rfl ?_
     refine vc_guardF 49 rfl rfl rfl rfl ?_
     refine vc_guardF 49 rfl rfl rfl rfl ?_
     refine vc_guardF 49 rfl rfl rfl rfl ?_
     refine vc_guardF 49 rfl rfl rfl rfl ?_
     refine vc_guardF 49 rfl rfl rfl rfl ?_
     refine vc_guardF 49 rfl rfl rfl rfl ?_
     refine vc_guardT 46 rfl rfl ?_
     refine vp ?_
     refine vc_guardT 35 rfl rfl ?_
     refine vp ?_
     refine vp ?_
     refine vc_nil ?_
     refine vc_then ?_
     refine vc_condF rfl ?_
     refine vc_skip ?_
     refine vc_inNormal ?_
     refine vc_then ?_
     refine vc_region ?_
     refine vp ?_
     first | refine vc_y (y_arith _ rfl (wrapNadd (by omega))) rfl ?_ | refine vc_y (y_arith _ rfl (wrap64 (by omega) (by omega))) rfl ?_ | refine vp ?_
     refine vp ?_
     refine vc_nil ?_
     refine vc_then ?_
     exact vc_again (x := i) (i + 1) ⟨hi2, by rw [hf2]; refine if_neg ?_; simp [*]⟩ (by show T.length - (i + 1) < T.length - i; omega) ⟨rfl, rfl, rfl, rfl, rfl, trivial⟩ (ent_pick [2, 2, 1] rfl)
  ·skip
   refine vc_guardF 35 rfl rfl rfl rfl ?_
   refine vc_guardF 35 rfl rfl rfl rfl ?_
   refine vc_guardF 35 rfl rfl rfl rfl ?_
   refine vc_guardF 35 rfl rfl rfl rfl ?_
   refine vc_guardF 35 rfl rfl rfl rfl ?_
   refine vc_guardF 35 rfl rfl rfl rfl ?_
   refine vc_guardF 35 rfl rfl rfl rfl ?_
   refine vc_guardF 35 rfl rfl rfl rfl ?_
   refine vc_guardF 35 rfl rfl rfl rfl ?_
   refine vc_guardF 35 rfl rfl rfl rfl ?_
   refine vc_guardF 35 rfl rfl rfl rfl ?_
   refine vc_guardU 46 rfl rfl rfl ?_
   refine vc_guardU 46 rfl rfl rfl ?_
   refine vc_guardU 46 rfl rfl rfl ?_
   refine vc_guardU 49 rfl rfl rfl ?_
   refine vc_guardU 49 rfl rfl rfl ?_
   refine vc_guardU 49 rfl rfl rfl ?_
   refine vc_guardU 49 rfl rfl rfl ?_
   refine vc_guardU 49 rfl rfl rfl ?_
   refine vc_guardU 49 rfl rfl rfl ?_
   refine vc_guardU 49 rfl rfl rfl ?_
   refine vc_guardU 49 rfl rfl rfl ?_
   refine vc_guardU 49 rfl rfl rfl ?_
   refine vc_guardU 49 rfl rfl rfl ?_
   refine vc_guardU 46 rfl rfl rfl ?_
   refine vc_guardF 35 rfl rfl rfl rfl ?_
   refine vp ?_
   refine vc_nil ?_
   refine vc_then ?_
   refine vc_condF rfl ?_
   refine vc_skip ?_
   refine vc_inNormal ?_
   refine vc_then ?_
   refine vc_region ?_
   refine vp ?_
   first | refine vc_y (y_arith _ rfl (wrapNadd (by omega))) rfl ?_ | refine vc_y (y_arith _ rfl (wrap64 (by omega) (by omega))) rfl ?_ | refine vp ?_
   refine vp ?_
   refine vc_nil ?_
   refine vc_then ?_
   exact vc_again (x := i) (i + 1) ⟨hi2, by rw [hf2]; refine if_neg ?_; simp [*]⟩ (by show T.length - (i + 1) < T.length - i; omega) ⟨rfl, rfl, rfl, rfl, rfl, trivial⟩ (ent_pick [2, 2, 1] rfl)
 ·skip
  obtain rfl : i = T.length := by omega
  have hb3 := hT.n
  refine vc_exit ?_
  refine vc_thenExit ?_
  refine vc_thenExit ?_
  refine vc_inExit ?_
  refine vc_then ?_
  refine vc_seq ?_
  refine vc_region ?_
  refine vp ?_
  refine vc_nil ?_
  refine vc_then ?_
  refine vc_ret ?_
  exact vc_end1 Tryz.results98 rfl _ (ent_pick [0, 0, 0] rfl) ⟨by first | (rw [hf, List.drop_length]; rfl) | (rw [hf2, if_pos (by simp [*])]), rfl⟩
end Go.Proofs.YtcpbibdbahfgaaaGreat
namespace Go.Proofs.YtcpbibdbahfgaaaGreat
open Go.Eng
namespace FRef4
theorem fl_126_2 : Fld Tryz.prog 126 2 2 := ⟨_, _, 0, Tryz.underlying126, rfl, rfl, by kernel_rfl⟩
theorem one_22 : TyOne Tryz.prog 22 := ⟨⟨_, Tryz.underlying22, rfl⟩, by kernel_rfl⟩
theorem sl_22 : TySl Tryz.prog 22 34 1 := ⟨Tryz.underlying22, by kernel_rfl⟩
theorem one_34 : TyOne Tryz.prog 34 := ⟨⟨_, Tryz.underlying34, rfl⟩, by kernel_rfl⟩
theorem ca_100 : Callable Tryz.prog 100 := ⟨_, _, Tryz.func100, rfl, rfl⟩
theorem sz_34 : (Tryz.prog.info? 34).map (·.size) = some 1 := by kernel_rfl
theorem ze_34 : (Tryz.prog.info? 34).map (·.zero) = some (some (.int .u64 0)) := by kernel_rfl
theorem bs_22_1 (v0 : Value) (h0 : v0.cells = #[v0]) (w : World) : (Instr.buildSlice 22 1 #[(0, v0)]).run Tryz.prog w = .ok (.slice (some ⟨w.heap.size, 0, none⟩) 1 1) { w with heap := w.heap.push (.cells #[v0] 34 (0, 0)) } :=
 Go.Eng.run_buildSlice Tryz.underlying22 sz_34 ze_34 (by decide) (by rw [show Array.range (1 * 1) = #[0] from by decide]; simp [Instr.fill, cells_agg, h0]) w
theorem el_22_eU64 : TyEl Tryz.prog 22 eU64 8 := ⟨Tryz.underlying22, .int .u64 0, by kernel_rfl, rfl⟩
theorem sz_22 : (Tryz.prog.info? 22).map (·.size) = some 1 := by kernel_rfl
theorem fl_126_0 : Fld Tryz.prog 126 0 0 := ⟨_, _, 0, Tryz.underlying126, rfl, rfl, by kernel_rfl⟩
theorem one_3 : TyOne Tryz.prog 3 := ⟨⟨_, Tryz.underlying3, rfl⟩, by kernel_rfl⟩
theorem fl_126_1 : Fld Tryz.prog 126 1 1 := ⟨_, _, 0, Tryz.underlying126, rfl, rfl, by kernel_rfl⟩
theorem sz_152 : (Tryz.prog.info? 152).map (·.size) = some 2 := by kernel_rfl
theorem ze_152 : (Tryz.prog.info? 152).map (·.zero) = some (some (.agg #[.string ⟨#[]⟩, .slice none 0 0])) := by kernel_rfl
theorem bs_65_0   (w : World) : (Instr.buildSlice 65 0 #[]).run Tryz.prog w = .ok (.slice (some ⟨w.heap.size, 0, none⟩) 0 0) { w with heap := w.heap.push (.cells #[] 152 (0, 0)) } :=
 Go.Eng.run_buildSlice Tryz.underlying65 sz_152 ze_152 (by decide) (by rw [show Array.range (0 * 2) = #[] from by decide]; simp [Instr.fill, cells_agg]) w
theorem fl_67_2 : Fld Tryz.prog 67 2 5 := ⟨_, _, 0, Tryz.underlying67, rfl, rfl, by kernel_rfl⟩
theorem one_65 : TyOne Tryz.prog 65 := ⟨⟨_, Tryz.underlying65, rfl⟩, by kernel_rfl⟩
theorem sl_65 : TySl Tryz.prog 65 152 2 := ⟨Tryz.underlying65, by kernel_rfl⟩
theorem ag_152 : TyAgg Tryz.prog 152 2 := ⟨⟨_, Tryz.underlying152, rfl⟩, by kernel_rfl⟩
theorem fl_152_0 : Fld Tryz.prog 152 0 0 := ⟨_, _, 0, Tryz.underlying152, rfl, rfl, by kernel_rfl⟩
theorem one_9 : TyOne Tryz.prog 9 := ⟨⟨_, Tryz.underlying9, rfl⟩, by kernel_rfl⟩
theorem fl_152_1 : Fld Tryz.prog 152 1 1 := ⟨_, _, 0, Tryz.underlying152, rfl, rfl, by kernel_rfl⟩
theorem one_138 : TyOne Tryz.prog 138 := ⟨⟨_, Tryz.underlying138, rfl⟩, by kernel_rfl⟩
theorem ag_135 : TyAgg Tryz.prog 135 5 := ⟨⟨_, Tryz.underlying135, rfl⟩, by kernel_rfl⟩
theorem sz_135 : (Tryz.prog.info? 135).map (·.size) = some 5 := by kernel_rfl
theorem ze_135 : (Tryz.prog.info? 135).map (·.zero) = some (some (.agg #[.int .i64 0, .bool false, .bool false, .string ⟨#[]⟩, .int .u64 0])) := by kernel_rfl
theorem bs_138_0   (w : World) : (Instr.buildSlice 138 0 #[]).run Tryz.prog w = .ok (.slice (some ⟨w.heap.size, 0, none⟩) 0 0) { w with heap := w.heap.push (.cells #[] 135 (0, 0)) } :=
 Go.Eng.run_buildSlice Tryz.underlying138 sz_135 ze_135 (by decide) (by rw [show Array.range (0 * 5) = #[] from by decide]; simp [Instr.fill, cells_agg]) w
theorem el_138_eVer : TyEl Tryz.prog 138 eVer 48 := ⟨Tryz.underlying138, .agg #[.int .i64 0, .bool false, .bool false, .string ⟨#[]⟩, .int .u64 0], by kernel_rfl, rfl⟩
theorem bs_138_1 (v0_0 v0_1 v0_2 v0_3 v0_4 : Value)  (w : World) : (Instr.buildSlice 138 1 #[(0, .agg #[v0_0, v0_1, v0_2, v0_3, v0_4])]).run Tryz.prog w = .ok (.slice (some ⟨w.heap.size, 0, none⟩) 1 1) { w with heap := w.heap.push (.cells #[v0_0, v0_1, v0_2, v0_3, v0_4] 135 (0, 0)) } :=
 Go.Eng.run_buildSlice Tryz.underlying138 sz_135 ze_135 (by decide) (by rw [show Array.range (1 * 5) = #[0, 1, 2, 3, 4] from by decide]; simp [Instr.fill, cells_agg]) w
theorem sz_138 : (Tryz.prog.info? 138).map (·.size) = some 1 := by kernel_rfl
theorem bs_65_1 (v0_0 v0_1 : Value)  (w : World) : (Instr.buildSlice 65 1 #[(0, .agg #[v0_0, v0_1])]).run Tryz.prog w = .ok (.slice (some ⟨w.heap.size, 0, none⟩) 1 1) { w with heap := w.heap.push (.cells #[v0_0, v0_1] 152 (0, 0)) } :=
 Go.Eng.run_buildSlice Tryz.underlying65 sz_152 ze_152 (by decide) (by rw [show Array.range (1 * 2) = #[0, 1] from by decide]; simp [Instr.fill, cells_agg]) w
theorem el_65_eOne : TyEl Tryz.prog 65 eOne 40 := ⟨Tryz.underlying65, .agg #[.string ⟨#[]⟩, .slice none 0 0], by kernel_rfl, rfl⟩
theorem bu_152_0_1 (v0 : Value) (v1 : Value) (h0 : v0.cells = #[v0]) (h1 : v1.cells = #[v1]) (w : World) : (Instr.build 152 #[(0, v0), (1, v1)]).run Tryz.prog w = .ok (.agg #[v0, v1]) w := by
 have hz := @ze_152
 exact Go.Eng.run_build (pl := [(0, 1), (1, 1)]) hz Tryz.underlying152 (by kernel_rfl) rfl (by simp [Instr.fill, h0, h1, cells_agg]) w
theorem sz_65 : (Tryz.prog.info? 65).map (·.size) = some 1 := by kernel_rfl
end FRef4
open FRef4
theorem rgPush {K : RfK} {bg : Int} {hS : SH} {L : List Int} (hq : 0 ≤ bg ∧ bg + (L.length : Int) ≤ 1073741824) (s : Int) : Does Tryz.prog 117 [.pointer (some ⟨K.bG, 0, none⟩), .int .u64 s] [RgP K.bG K.ring bg hS, Sl eU64 hS L] (fun v l => v = .tuple #[.int .i64 (pushL bg L s).1, .int .i64 (pushL bg L s).2.1] ∧ ∃ hS', l = [RgP K.bG K.ring bg hS', Sl eU64 hS' (pushL bg L s).2.2]) := by
 refine spec_of Tryz.func117 rfl Tryz.ntmps117 Tryz.results117 _ (by simp) fun ι F => ?_
 refine vc_see 1 rfl (Sl.vis.imp fun w r => r.len) (fun hlS => ?_)
 refine vc_seq ?_
 refine vc_region ?_
 refine vp ?_
 refine vp ?_
 refine vc_nil ?_
 refine vc_then ?_
 refine vc_seq ?_
 refine vc_region ?_
 refine vp ?_
 refine vc_nil ?_
 refine vc_then ?_
 refine vc_seq ?_
 refine vc_seq ?_
 refine vc_region ?_
 refine vp ?_
 refine vp ?_
 refine vc_y (y_fieldP fl_126_2 2 rfl rfl) rfl ?_
 refine vc_y (y_load1 0 rfl one_22 rfl (Pts.vis rfl)) rfl ?_
 refine vc_y (y_len Tryz.underlying22 rfl (by first | assumption | rfl)) rfl ?_
 refine vp ?_
 refine vc_nil ?_
 refine vc_then ?_
 first | refine vc_condP rfl (fun c12 => ?_) (fun c12 => ?_) | refine vc_condN rfl (fun c12 => ?_) (fun c12 => ?_) | refine vc_cond rfl (fun c12 => ?_) (fun c12 => ?_)
 ·skip
  have hls : lastS L = L[L.length - 1]'(by omega) := by unfold lastS; rw [List.getElem?_eq_getElem (by omega)]
  refine vc_draw (by kernel_rfl) _ none [0, 0] rfl ?_
  refine tpp 0 ?_
  refine tpp 1 ?_
  refine tp 2 rfl (by exact y_fieldP fl_126_2 2 rfl rfl) ?_
  refine tk 3 rfl (by exact y_load1 0 rfl one_22 rfl (Pts.vis rfl)) ?_
  refine tpp 4 ?_
  refine tpp 5 ?_
  refine tp 6 rfl (by exact y_fieldP fl_126_2 2 rfl rfl) ?_
  refine tk 7 rfl (by exact y_load1 0 rfl one_22 rfl (Pts.vis rfl)) ?_
  refine tp 8 rfl (by exact y_len Tryz.underlying22 rfl (by first | assumption | rfl)) ?_
  refine tp 9 rfl (by exact y_arith ((L.length - 1 : Nat) : Int) rfl (wrapNsub (by omega))) ?_
  refine tk 10 rfl (by exact y_elem 1 rfl (Sl.vis) (L.length - 1) rfl (by omega) sl_22 rfl rfl) ?_
  refine tk 11 rfl (by exact y_load1 1 rfl one_34 rfl (Rd.vis1 (Sl.vis) (List.getElem?_eq_getElem (by first | assumption | omega)) rfl)) ?_
  refine tpp 12 ?_
  refine va_done (by kernel_rfl) ?_
  refine vc_then ?_
  refine vc_seq ?_
  refine vc_seq ?_
  refine vc_region ?_
  iterate 3 refine vp ?_
  refine vc_nil ?_
  refine vc_then ?_
  first | refine vc_condP rfl (fun c27 => ?_) (fun c27 => ?_) | refine vc_condN rfl (fun c27 => ?_) (fun c27 => ?_) | refine vc_cond rfl (fun c27 => ?_) (fun c27 => ?_)
  ·skip
   have hp : pushL bg L s = (0, 1, L) := if_pos (by rw [hls]; exact c27)
   refine vc_seq ?_
   refine vc_region ?_
   refine vp ?_
   refine vp ?_
   refine vc_nil ?_
   refine vc_then ?_
   refine vc_ret ?_
   refine vc_thenRet ?_
   exact vc_end2 Tryz.results117 rfl rfl _ (ent_pick [0, 0] rfl) ⟨by rw [hp]; try first | rfl | (simp only [List.length_append, List.length_singleton, Int.natCast_add]; rw [← Int.add_assoc]; try rfl), _, by rw [hp]; try rfl⟩
  ·skip
   have hp0 : ¬ s ≤ lastS L := by rw [hls]; exact c27
   refine vc_skip ?_
   refine vc_then ?_
   refine vc_seq ?_
   refine vc_seq ?_
   refine vc_region ?_
   refine vp ?_
   refine vc_callv ca_100 (us := []) (vs := []) rfl [_] rfl [0, 0] rfl (rgSeq hq) rfl ?_
   rintro _ _ ⟨rfl, rfl⟩
   refine vp ?_
   refine vc_nil ?_
   refine vc_then ?_
   first | refine vc_condP rfl (fun c30 => ?_) (fun c30 => ?_) | refine vc_condN rfl (fun c30 => ?_) (fun c30 => ?_) | refine vc_cond rfl (fun c30 => ?_) (fun c30 => ?_)
   ·skip
    have hp : pushL bg L s = (0, 17, L) := by unfold pushL; rw [if_neg hp0, if_pos c30]
    refine vc_seq ?_
    refine vc_region ?_
    refine vp ?_
    refine vp ?_
    refine vc_nil ?_
    refine vc_then ?_
    refine vc_ret ?_
    refine vc_thenRet ?_
    exact vc_end2 Tryz.results117 rfl rfl _ (ent_pick [0, 0] rfl) ⟨by rw [hp]; try first | rfl | (simp only [List.length_append, List.length_singleton, Int.natCast_add]; rw [← Int.add_assoc]; try rfl), _, by rw [hp]; try rfl⟩
   ·skip
    have hp : pushL bg L s = (bg + (L.length : Int) + 1, 0, L ++ [s]) := by unfold pushL; rw [if_neg hp0, if_neg c30]
    refine vc_skip ?_
    refine vc_then ?_
    refine vc_seq ?_
    refine vc_region ?_
    iterate 3 refine vp ?_
    refine vc_y (y_fieldP fl_126_2 2 rfl rfl) rfl ?_
    refine vc_y (y_load1 0 rfl one_22 rfl (Pts.vis rfl)) rfl ?_
    refine vp ?_
    refine vc_buildSlice (E := eU64) [(0, _)] [s] rfl rfl (bs_22_1 _ rfl) rfl (fun h37 => ?_)
    refine vc_append 2 rfl 0 rfl (Sl.vis) el_22_eU64 Tryz.underlying22 rfl rfl (by simp; omega) (by simp; omega) rfl (fun h38 => ?_)
    refine vp ?_
    refine vc_y (y_fieldP fl_126_2 2 rfl rfl) rfl ?_
    refine vc_storeP 1 rfl [_] [_, _, _] rfl rfl rfl sz_22 rfl rfl rfl ?_
    refine vc_nil ?_
    refine vc_then ?_
    refine vc_seq ?_
    refine vc_region ?_
    refine vp ?_
    refine vc_callv ca_100 (us := []) (vs := []) rfl [_] rfl [1, 1] rfl (rgSeq (K := K) (L := L ++ [s]) (by rw [List.length_append, List.length_singleton]; omega)) rfl ?_
    rintro _ _ ⟨rfl, rfl⟩
    refine vp ?_
    refine vp ?_
    refine vc_nil ?_
    refine vc_then ?_
    refine vc_ret ?_
    exact vc_end2 Tryz.results117 rfl rfl _ (ent_pick [0, 0] rfl) ⟨by rw [hp]; try first | rfl | (simp only [List.length_append, List.length_singleton, Int.natCast_add]; rw [← Int.add_assoc]; try rfl), _, by rw [hp]; try rfl⟩
 ·skip
  have hls : lastS L = 0 := by
   rw [show L = [] from List.length_eq_zero_iff.1 (by omega)]; rfl
  refine vc_skip ?_
  refine vc_then ?_
  refine vc_seq ?_
  refine vc_seq ?_
  refine vc_region ?_
  iterate 3 refine vp ?_
  refine vc_nil ?_
  refine vc_then ?_
  first | refine vc_condP rfl (fun c27 => ?_) (fun c27 => ?_) | refine vc_condN rfl (fun c27 => ?_) (fun c27 => ?_) | refine vc_cond rfl (fun c27 => ?_) (fun c27 => ?_)
  ·skip
   have hp : pushL bg L s = (0, 1, L) := if_pos (by rw [hls]; exact c27)
   refine vc_seq ?_
   refine vc_region ?_
   refine vp ?_
   refine vp ?_
   refine vc_nil ?_
   refine vc_then ?_
   refine vc_ret ?_
   refine vc_thenRet ?_
   exact vc_end2 Tryz.results117 rfl rfl _ (ent_pick [0, 0] rfl) ⟨by rw [hp]; try first | rfl | (simp only [List.length_append, List.length_singleton, Int.natCast_add]; rw [← Int.add_assoc]; try rfl), _, by rw [hp]; try rfl⟩
  ·skip
   have hp0 : ¬ s ≤ lastS L := by rw [hls]; exact c27
   refine vc_skip ?_
   refine vc_then ?_
   refine vc_seq ?_
   refine vc_seq ?_
   refine vc_region ?_
   refine vp ?_
   refine vc_callv ca_100 (us := []) (vs := []) rfl [_] rfl [0, 0] rfl (rgSeq hq) rfl ?_
   rintro _ _ ⟨rfl, rfl⟩
   refine vp ?_
   refine vc_nil ?_
   refine vc_then ?_
   first | refine vc_condP rfl (fun c30 => ?_) (fun c30 => ?_) | refine vc_condN rfl (fun c30 => ?_) (fun c30 => ?_) | refine vc_cond rfl (fun c30 => ?_) (fun c30 => ?_)
   ·skip
    have hp : pushL bg L s = (0, 17, L) := by unfold pushL; rw [if_neg hp0, if_pos c30]
    refine vc_seq ?_
    refine vc_region ?_
    refine vp ?_
    refine vp ?_
    refine vc_nil ?_
    refine vc_then ?_
    refine vc_ret ?_
    refine vc_thenRet ?_
    exact vc_end2 Tryz.results117 rfl rfl _ (ent_pick [0, 0] rfl) ⟨by rw [hp]; try first | rfl | (simp only [List.length_append, List.length_singleton, Int.natCast_add]; rw [← Int.add_assoc]; try rfl), _, by rw [hp]; try rfl⟩
   ·skip
    have hp : pushL bg L s = (bg + (L.length : Int) + 1, 0, L ++ [s]) := by unfold pushL; rw [if_neg hp0, if_neg c30]
    refine vc_skip ?_
    refine vc_then ?_
    refine vc_seq ?_
    refine vc_region ?_
    iterate 3 refine vp ?_
    refine vc_y (y_fieldP fl_126_2 2 rfl rfl) rfl ?_
    refine vc_y (y_load1 0 rfl one_22 rfl (Pts.vis rfl)) rfl ?_
    refine vp ?_
    refine vc_buildSlice (E := eU64) [(0, _)] [s] rfl rfl (bs_22_1 _ rfl) rfl (fun h37 => ?_)
    refine vc_append 2 rfl 0 rfl (Sl.vis) el_22_eU64 Tryz.underlying22 rfl rfl (by simp; omega) (by simp; omega) rfl (fun h38 => ?_)
    refine vp ?_
    refine vc_y (y_fieldP fl_126_2 2 rfl rfl) rfl ?_
    refine vc_storeP 1 rfl [_] [_, _, _] rfl rfl rfl sz_22 rfl rfl rfl ?_
    refine vc_nil ?_
    refine vc_then ?_
    refine vc_seq ?_
    refine vc_region ?_
    refine vp ?_
    refine vc_callv ca_100 (us := []) (vs := []) rfl [_] rfl [1, 1] rfl (rgSeq (K := K) (L := L ++ [s]) (by rw [List.length_append, List.length_singleton]; omega)) rfl ?_
    rintro _ _ ⟨rfl, rfl⟩
    refine vp ?_
    refine vp ?_
    refine vc_nil ?_
    refine vc_then ?_
    refine vc_ret ?_
    exact vc_end2 Tryz.results117 rfl rfl _ (ent_pick [0, 0] rfl) ⟨by rw [hp]; try first | rfl | (simp only [List.length_append, List.length_singleton, Int.natCast_add]; rw [← Int.add_assoc]; try rfl), _, by rw [hp]; try rfl⟩
theorem rgAsOf {K : RfK} {bg : Int} {hS : SH} {L : List Int} (hq : 0 ≤ bg ∧ bg + (L.length : Int) ≤ 1073741824) (hr : 1 ≤ K.ring ∧ K.ring ≤ 16) (hL : RiseI L) (s : Int) : Does Tryz.prog 33 [.pointer (some ⟨K.bG, 0, none⟩), .int .u64 s] [RgP K.bG K.ring bg hS, Sl eU64 hS L] (fun v l => v = .tuple #[.int .i64 (if K.ring ≤ (L.length : Int) - leI L s then (0 : Int) else bg + leI L s), .int .i64 (if K.ring ≤ (L.length : Int) - leI L s then 14 else 0)] ∧ l = [RgP K.bG K.ring bg hS, Sl eU64 hS L]) := by
 refine spec_of Tryz.func33 rfl Tryz.ntmps33 Tryz.results33 _ (by simp) fun ι F => ?_
 refine vc_see 1 rfl (Sl.vis.imp fun w r => r.len) (fun hlS => ?_)
 refine vc_seq ?_
 refine vc_region ?_
 refine vp ?_
 refine vp ?_
 refine vc_nil ?_
 refine vc_then ?_
 refine vc_seq ?_
 refine vc_region ?_
 refine vp ?_
 refine vc_nil ?_
 refine vc_then ?_
 refine vc_seq ?_
 refine vc_seq ?_
 refine vc_region ?_
 refine vp ?_
 refine vc_nil ?_
 refine vc_then ?_
 refine vc_block ?_
 refine vc_loop (α := Nat × Nat) (fun xq_ => match xq_ with | (i, n) => [(0, .pointer (some ⟨K.bG, 0, none⟩)), (1, .int .u64 s), (6, .int .i64 (n : Int)), (7, .int .i64 (i : Int))]) (fun xq_ => match xq_ with | (i, n) => [RgP K.bG K.ring bg hS, Sl eU64 hS L]) (fun xq_ => match xq_ with | (i, n) => L.length - i) (fun xq_ => match xq_ with | (i, n) => i ≤ L.length ∧ n = cntI (L.take i) s) (0, 0) ⟨Nat.zero_le _, rfl⟩ ⟨rfl, rfl, rfl, rfl, trivial⟩ (ent_pick [0, 0] rfl) ?_
 rintro ⟨i, n⟩ ⟨hi, hn⟩
 show VC _ _ _ _ [(0, .pointer (some ⟨K.bG, 0, none⟩)), (1, .int .u64 s), (6, .int .i64 (n : Int)), (7, .int .i64 (i : Int))] ([RgP K.bG K.ring bg hS, Sl eU64 hS L])
 refine vc_seq ?_
 refine vc_seq ?_
 refine vc_region ?_
 iterate 3 refine vp ?_
 refine vc_y (y_fieldP fl_126_2 2 rfl rfl) rfl ?_
 refine vc_y (y_load1 0 rfl one_22 rfl (Pts.vis rfl)) rfl ?_
 refine vc_y (y_len Tryz.underlying22 rfl (by first | assumption | rfl)) rfl ?_
 refine vp ?_
 refine vc_nil ?_
 refine vc_then ?_
 first | refine vc_condP rfl (fun c14 => ?_) (fun c14 => ?_) | refine vc_condN rfl (fun c14 => ?_) (fun c14 => ?_) | refine vc_cond rfl (fun c14 => ?_) (fun c14 => ?_)
 ·skip
  have hi2 : i < L.length := by omega
  have hc := cntI_le (L.take i) s
  rw [← hn, List.length_take] at hc
  refine vc_skip ?_
  refine vc_then ?_
  refine vc_seq ?_
  refine vc_block ?_
  refine vc_seq ?_
  refine vc_region ?_
  refine vp ?_
  refine vp ?_
  refine vc_y (y_fieldP fl_126_2 2 rfl rfl) rfl ?_
  refine vc_y (y_load1 0 rfl one_22 rfl (Pts.vis rfl)) rfl ?_
  refine vp ?_
  refine vc_y (y_elem 1 rfl (Sl.vis) i rfl hi2 sl_22 rfl rfl) rfl ?_
  refine vc_y (y_load1 1 rfl one_34 rfl (Rd.vis1 (Sl.vis) (List.getElem?_eq_getElem (by first | assumption | omega)) rfl)) rfl ?_
  refine vp ?_
  refine vp ?_
  refine vc_nil ?_
  refine vc_then ?_
  first | refine vc_condP rfl (fun c25 => ?_) (fun c25 => ?_) | refine vc_condN rfl (fun c25 => ?_) (fun c25 => ?_) | refine vc_cond rfl (fun c25 => ?_) (fun c25 => ?_)
  ·skip
   refine vc_region ?_
   refine vp ?_
   first | refine vc_y (y_arith _ rfl (wrapNadd (by omega))) rfl ?_ | refine vc_y (y_arith _ rfl (wrap64 (by omega) (by omega))) rfl ?_ | refine vp ?_
   refine vp ?_
   refine vc_nil ?_
   refine vc_inNormal ?_
   refine vc_then ?_
   refine vc_region ?_
   refine vp ?_
   first | refine vc_y (y_arith _ rfl (wrapNadd (by omega))) rfl ?_ | refine vc_y (y_arith _ rfl (wrap64 (by omega) (by omega))) rfl ?_ | refine vp ?_
   refine vp ?_
   refine vc_nil ?_
   refine vc_then ?_
   first | exact vc_again (x := (i, n)) (i + 1, n + 1) ⟨hi2, by rw [cntI_succ hi2, if_pos c25, hn]⟩ (by show L.length - (i + 1) < L.length - i; omega) ⟨rfl, rfl, rfl, rfl, trivial⟩ (ent_pick [0, 0] rfl) | exact vc_again (x := (i, n)) (i + 1, n) ⟨hi2, by rw [cntI_succ hi2, if_neg c25, hn]; rfl⟩ (by show L.length - (i + 1) < L.length - i; omega) ⟨rfl, rfl, rfl, rfl, trivial⟩ (ent_pick [0, 0] rfl)
  ·skip
   refine vc_skip ?_
   refine vc_inNormal ?_
   refine vc_then ?_
   refine vc_region ?_
   refine vp ?_
   first | refine vc_y (y_arith _ rfl (wrapNadd (by omega))) rfl ?_ | refine vc_y (y_arith _ rfl (wrap64 (by omega) (by omega))) rfl ?_ | refine vp ?_
   refine vp ?_
   refine vc_nil ?_
   refine vc_then ?_
   first | exact vc_again (x := (i, n)) (i + 1, n + 1) ⟨hi2, by rw [cntI_succ hi2, if_pos c25, hn]⟩ (by show L.length - (i + 1) < L.length - i; omega) ⟨rfl, rfl, rfl, rfl, trivial⟩ (ent_pick [0, 0] rfl) | exact vc_again (x := (i, n)) (i + 1, n) ⟨hi2, by rw [cntI_succ hi2, if_neg c25, hn]; rfl⟩ (by show L.length - (i + 1) < L.length - i; omega) ⟨rfl, rfl, rfl, rfl, trivial⟩ (ent_pick [0, 0] rfl)
 ·skip
  obtain rfl : i = L.length := by omega
  rw [List.take_length, cntI_eq hL] at hn
  have hc := leI_le L s
  obtain rfl := hn
  refine vc_exit ?_
  refine vc_thenExit ?_
  refine vc_thenExit ?_
  refine vc_inExit ?_
  refine vc_then ?_
  refine vc_seq ?_
  refine vc_seq ?_
  refine vc_draw (by kernel_rfl) _ none [0, 0] rfl ?_
  refine tpp 0 ?_
  refine tpp 1 ?_
  refine tp 2 rfl (by exact y_fieldP fl_126_2 2 rfl rfl) ?_
  refine tk 3 rfl (by exact y_load1 0 rfl one_22 rfl (Pts.vis rfl)) ?_
  refine tp 4 rfl (by exact y_len Tryz.underlying22 rfl (by first | assumption | rfl)) ?_
  refine tpp 5 ?_
  first | refine tp 6 rfl (by exact y_arith _ rfl (wrap64 (by omega) (by omega))) ?_ | refine tpp 6 ?_
  refine tpp 7 ?_
  refine tpp 8 ?_
  refine tp 9 rfl (by exact y_fieldP fl_126_0 0 rfl rfl) ?_
  refine tk 10 rfl (by exact y_load1 0 rfl one_3 rfl (Pts.vis rfl)) ?_
  refine tpp 11 ?_
  refine va_done (by kernel_rfl) ?_
  refine vc_then ?_
  first | refine vc_condP rfl (fun c39 => ?_) (fun c39 => ?_) | refine vc_condN rfl (fun c39 => ?_) (fun c39 => ?_) | refine vc_cond rfl (fun c39 => ?_) (fun c39 => ?_)
  ·skip
   refine vc_seq ?_
   refine vc_region ?_
   refine vp ?_
   refine vp ?_
   refine vc_nil ?_
   refine vc_then ?_
   refine vc_ret ?_
   refine vc_thenRet ?_
   exact vc_end2 Tryz.results33 rfl rfl _ (ent_pick [0, 0] rfl) ⟨by rw [if_pos (by omega), if_pos (by omega)], rfl⟩
  ·skip
   refine vc_skip ?_
   refine vc_then ?_
   refine vc_seq ?_
   refine vc_region ?_
   refine vp ?_
   refine vp ?_
   refine vc_y (y_fieldP fl_126_1 1 rfl rfl) rfl ?_
   refine vc_y (y_load1 0 rfl one_3 rfl (Pts.vis rfl)) rfl ?_
   refine vp ?_
   first | refine vc_y (y_arith _ rfl (wrap64 (by omega) (by omega))) rfl ?_ | refine vp ?_
   refine vp ?_
   refine vp ?_
   refine vc_nil ?_
   refine vc_then ?_
   refine vc_ret ?_
   exact vc_end2 Tryz.results33 rfl rfl _ (ent_pick [0, 0] rfl) ⟨by rw [if_neg (by omega), if_neg (by omega)], rfl⟩
theorem rfPut {b : Nat} {K : RfK} {hO : SH} {T : List On} (hT : TOk T) (key : ByteArray) (v : Ver) : Does Tryz.prog 155 [.pointer (some ⟨b, 0, none⟩), .string key, .agg #[.int .i64 v.seq, .bool v.gone, .bool v.val.num, .string v.val.text, .int .u64 v.val.bits]] (RfL b K hO T) (fun _ l => ∃ hO' T', mpT T' = putGo key v false (mpT T) ∧ l = RfL b K hO' T') := by
 refine spec_of Tryz.func155 rfl Tryz.ntmps155 Tryz.results155 _ (by simp) fun ι F => ?_
 refine vc_see 1 rfl (RoSl.vis.imp fun w r => r.len) (fun hlen => ?_)
 refine vc_seq ?_
 refine vc_region ?_
 refine vc_box [_, _, _, _, _] rfl rfl rfl (fun b5 => ?_)
 refine vc_nil ?_
 refine vc_then ?_
 refine vc_seq ?_
 refine vc_region ?_
 refine vc_buildSlice (E := eOne) [] [] rfl rfl (bs_65_0  ) rfl (fun h10 => ?_)
 refine vp ?_
 refine vc_nil ?_
 refine vc_then ?_
 refine vc_seq ?_
 refine vc_region ?_
 refine vp ?_
 refine vc_nil ?_
 refine vc_then ?_
 refine vc_seq ?_
 refine vc_seq ?_
 refine vc_region ?_
 refine vc_ent (l' := RoM [] :: _) (Ent.empL.trans (Ent.sep RoM.nil Ent.rfl)) ?_
 refine vp ?_
 refine vc_nil ?_
 refine vc_then ?_
 refine vc_block ?_
 refine vc_loop (α := Nat × Bool × SH × List On) (fun xq_ => match xq_ with | (i, p, hh, U) => [(0, .pointer (some ⟨b, 0, none⟩)), (1, .string key), (5, .pointer (some ⟨b5, 0, none⟩)), (6, hh.v), (7, .bool p), (8, .int .i64 (i : Int))]) (fun xq_ => match xq_ with | (i, p, hh, U) => [Pts b5 v.cs 135, RfP b K hO, RoSl eOne hO T, RoM T, Sl eOne hh U, RoM U]) (fun xq_ => match xq_ with | (i, p, hh, U) => T.length - i) (fun xq_ => match xq_ with | (i, p, hh, U) => i ≤ T.length ∧ putGo key v false (mpT T) = mpT U ++ putGo key v p (mpT (T.drop i)) ∧ U.length ≤ 2 * i) (0, false, h10, []) ⟨Nat.zero_le _, rfl, Nat.le_refl _⟩ ⟨rfl, rfl, rfl, rfl, rfl, rfl, trivial⟩ (ent_pick [2, 2, 2, 2, 1, 0] rfl) ?_
 rintro ⟨i, p, hh, U⟩ ⟨hi, hst, hul⟩
 show VC _ _ _ _ [(0, .pointer (some ⟨b, 0, none⟩)), (1, .string key), (5, .pointer (some ⟨b5, 0, none⟩)), (6, hh.v), (7, .bool p), (8, .int .i64 (i : Int))] ([Pts b5 v.cs 135, RfP b K hO, RoSl eOne hO T, RoM T, Sl eOne hh U, RoM U])
 refine vc_seq ?_
 refine vc_seq ?_
 refine vc_region ?_
 iterate 3 refine vp ?_
 refine vc_y (y_fieldP fl_67_2 5 rfl rfl) rfl ?_
 refine vc_y (y_load1 1 rfl one_65 rfl (Pts.vis rfl)) rfl ?_
 refine vc_y (y_len Tryz.underlying65 rfl (by first | assumption | rfl)) rfl ?_
 refine vp ?_
 refine vc_nil ?_
 refine vc_then ?_
 first | refine vc_condP rfl (fun c17 => ?_) (fun c17 => ?_) | refine vc_condN rfl (fun c17 => ?_) (fun c17 => ?_) | refine vc_cond rfl (fun c17 => ?_) (fun c17 => ?_)
 ·skip
  have hi2 : i < T.length := by omega
  have hb3 := hT.n
  have hb4 := hT.len _ (List.getElem_mem hi2)
  refine vc_skip ?_
  refine vc_then ?_
  refine vc_seq ?_
  refine vc_block ?_
  refine vc_seq ?_
  refine vc_region ?_
  refine vp ?_
  refine vp ?_
  refine vc_y (y_fieldP fl_67_2 5 rfl rfl) rfl ?_
  refine vc_y (y_load1 1 rfl one_65 rfl (Pts.vis rfl)) rfl ?_
  refine vp ?_
  refine vc_y (y_elem 2 rfl (RoSl.vis) i rfl hi2 sl_65 rfl rfl) rfl ?_
  refine vc_y (y_loadA 2 rfl (cs := [_, _]) ag_152 rfl (Rd.visA (RoSl.vis) (List.getElem?_eq_getElem (by first | assumption | omega)) rfl)) rfl ?_
  refine vc_alloc [.string ⟨#[]⟩, .slice none 0 0] ze_152 rfl rfl (fun b9 => ?_)
  refine vc_storeP 0 rfl [_, _] [_, _] rfl rfl rfl sz_152 rfl rfl rfl ?_
  refine vc_nil ?_
  refine vc_then ?_
  refine vc_seq ?_
  refine vc_seq ?_
  refine vc_region ?_
  refine vc_y (y_fieldP fl_152_0 0 rfl rfl) rfl ?_
  refine vc_y (y_load1 0 rfl one_9 rfl (Pts.vis rfl)) rfl ?_
  refine vp ?_
  refine vp ?_
  refine vc_nil ?_
  refine vc_then ?_
  first | refine vc_condP rfl (fun c30 => ?_) (fun c30 => ?_) | refine vc_condN rfl (fun c30 => ?_) (fun c30 => ?_) | refine vc_cond rfl (fun c30 => ?_) (fun c30 => ?_)
  ·skip
   have hk : sEq T[i].1 key = true := c30
   have e1 : putGo key v p (mpT (T.drop i)) = (T[i].1, T[i].2.2 ++ [v]) :: putGo key v true (mpT (T.drop (i + 1))) := by rw [lead_take hi2]; simp only [putGo, hk, if_true]
   refine vc_seq ?_
   refine vc_draw (by kernel_rfl) _ (some 8) [1, 0, 0, 0, 0] rfl ?_
   refine tp 1 rfl (by exact y_fieldP fl_152_1 1 rfl rfl) ?_
   refine tk 2 rfl (by exact y_load1 1 rfl one_138 rfl (Pts.vis rfl)) ?_
   refine tk 4 rfl (by exact y_loadA 0 rfl (cs := [_, _, _, _, _]) ag_135 rfl (Pts.visA rfl)) ?_
   refine va_ready [0, 5] (by kernel_rfl) rfl ?_
   refine vo_cons rfl (fun hC0 => ?_) ?_
   ·skip
    refine vc_buildSlice (E := eVer) [] [] rfl rfl (bs_138_0  ) rfl (fun h31 => ?_)
    refine vc_nil ?_
    refine vc_then ?_
    refine va_kept hC0 [2, 1, 1, 1, 1] rfl ?_
    clear hC0
    refine va_ready [3, 5] (by kernel_rfl) rfl ?_
    refine vo_cons rfl (fun hC0 => ?_) ?_
    ·skip
     refine vc_append 0 rfl 5 rfl (RoM.vis (List.getElem_mem hi2)) el_138_eVer Tryz.underlying138 rfl rfl (by simp; omega) (by simp; omega) rfl (fun h34 => ?_)
     refine vc_nil ?_
     refine vc_then ?_
     refine va_kept hC0 [2, 1, 1, 1, 1] rfl ?_
     clear hC0
     refine va_ready [5] (by kernel_rfl) rfl ?_
     refine vo_cons rfl (fun hC0 => ?_) ?_
     ·skip
      refine vc_buildSlice (E := eVer) [(0, _)] [v] rfl rfl (bs_138_1 _ _ _ _ _ ) rfl (fun h36 => ?_)
      refine vc_nil ?_
      refine vc_then ?_
      refine va_kept hC0 [3, 2, 2, 2, 2] rfl ?_
      clear hC0
      refine va_ready [6] (by kernel_rfl) rfl ?_
      refine vo_cons rfl (fun hC0 => ?_) ?_
      ·skip
       refine vc_append 1 rfl 0 rfl (Sl.vis) el_138_eVer Tryz.underlying138 rfl rfl (by simp; omega) (by simp; omega) rfl (fun h37 => ?_)
       refine vc_nil ?_
       refine vc_then ?_
       refine va_kept hC0 [3, 2, 2, 2, 2] rfl ?_
       clear hC0
       refine tp 7 rfl (by exact y_fieldP fl_152_1 1 rfl rfl) ?_
       refine va_ready [8] (by kernel_rfl) rfl ?_
       refine vo_cons rfl (fun hC0 => ?_) ?_
       ·skip
        refine vc_storeP 2 rfl [_] [_, _] rfl rfl rfl sz_138 rfl rfl rfl ?_
        refine vc_nil ?_
        refine vc_then ?_
        refine va_gone hC0 (by kernel_rfl) ?_
        clear hC0
        refine va_done (by kernel_rfl) ?_
        refine vc_then ?_
        refine vc_region ?_
        refine vp ?_
        refine vc_nil ?_
        refine vc_then ?_
        refine vc_seq ?_
        refine vc_seq ?_
        refine vc_region ?_
        iterate 3 refine vp ?_
        refine vc_guardF 41 rfl rfl rfl rfl ?_
        refine vc_guardF 41 rfl rfl rfl rfl ?_
        refine vc_guardF 41 rfl rfl rfl rfl ?_
        refine vc_guardF 41 rfl rfl rfl rfl ?_
        refine vp ?_
        refine vc_nil ?_
        refine vc_then ?_
        refine vc_condF rfl ?_
        refine vc_skip ?_
        refine vc_then ?_
        refine vc_region ?_
        refine vc_turn 1 rfl (RoSl eVer h37 (T[i].2.2 ++ [v])) Sl.share ?_
        refine vc_ent (ent_at [1, 7, 0, 0, 0, 0, 0, 0, 0] rfl (RoM.new (k := T[i].1))) ?_
        refine vp ?_
        refine vc_y (y_loadA 2 rfl (cs := [_, _]) ag_152 rfl (Pts.visA rfl)) rfl ?_
        refine vc_buildSlice (E := eOne) [(0, _)] [(T[i].1, h37, T[i].2.2 ++ [v])] rfl rfl (bs_65_1 _ _ ) rfl (fun h56 => ?_)
        refine vc_append 8 rfl 0 rfl (Sl.vis) el_65_eOne Tryz.underlying65 rfl rfl (by simp; omega) (by simp; omega) rfl (fun h57 => ?_)
        refine vp ?_
        refine vc_nil ?_
        refine vc_inNormal ?_
        refine vc_then ?_
        refine vc_region ?_
        refine vp ?_
        first | refine vc_y (y_arith _ rfl (wrapNadd (by omega))) rfl ?_ | refine vc_y (y_arith _ rfl (wrap64 (by omega) (by omega))) rfl ?_ | refine vp ?_
        refine vp ?_
        refine vc_nil ?_
        refine vc_then ?_
        first | exact vc_again (x := (i, p, hh, U)) (i + 1, true, h57, U ++ [(T[i].1, h37, T[i].2.2 ++ [v])]) ⟨hi2, by rw [hst, e1, mpT_append]; simp [mpT], by simp; omega⟩ (by show T.length - (i + 1) < T.length - i; omega) ⟨rfl, rfl, rfl, rfl, rfl, rfl, trivial⟩ (ent_pick [4, 4, 4, 4, 4, 1] rfl) | exact vc_again (x := (i, p, hh, U)) (i + 1, true, h57, U ++ [(key, h50, [v])] ++ [T[i]]) ⟨hi2, by rw [hst, lead_take hi2]; simp only [putGo, hk]; rw [if_neg (by simp), if_pos (by simp [*]), mpT_append, mpT_append]; simp [mpT], by simp; omega⟩ (by show T.length - (i + 1) < T.length - i; omega) ⟨rfl, rfl, rfl, rfl, rfl, rfl, trivial⟩ (ent_pick [4, 4, 4, 4, 4, 1] rfl) | exact vc_again (x := (i, p, hh, U)) (i + 1, p, h57, U ++ [T[i]]) ⟨hi2, by rw [hst, lead_take hi2]; simp only [putGo, hk]; rw [if_neg (by simp), if_neg (by simp [*]), mpT_append]; simp [mpT], by simp; omega⟩ (by show T.length - (i + 1) < T.length - i; omega) ⟨rfl, rfl, rfl, rfl, rfl, rfl, trivial⟩ (ent_pick [4, 4, 4, 4, 4, 1] rfl)
       exact vo_nil
      exact vo_nil
     exact vo_nil
    refine vo_cons rfl (fun hC0 => ?_) ?_
    ·skip
     refine vc_buildSlice (E := eVer) [(0, _)] [v] rfl rfl (bs_138_1 _ _ _ _ _ ) rfl (fun h36 => ?_)
     refine vc_nil ?_
     refine vc_then ?_
     refine va_kept hC0 [3, 2, 2, 2, 2] rfl ?_
     clear hC0
     refine va_ready [3] (by kernel_rfl) rfl ?_
     refine vo_cons rfl (fun hC0 => ?_) ?_
     ·skip
      refine vc_append 1 rfl 6 rfl (RoM.vis (List.getElem_mem hi2)) el_138_eVer Tryz.underlying138 rfl rfl (by simp; omega) (by simp; omega) rfl (fun h34 => ?_)
      refine vc_nil ?_
      refine vc_then ?_
      refine va_kept hC0 [3, 2, 2, 2, 2] rfl ?_
      clear hC0
      refine va_ready [6] (by kernel_rfl) rfl ?_
      refine vo_cons rfl (fun hC0 => ?_) ?_
      ·skip
       refine vc_append 1 rfl 0 rfl (Sl.vis) el_138_eVer Tryz.underlying138 rfl rfl (by simp; omega) (by simp; omega) rfl (fun h37 => ?_)
       refine vc_nil ?_
       refine vc_then ?_
       refine va_kept hC0 [3, 2, 2, 2, 2] rfl ?_
       clear hC0
       refine tp 7 rfl (by exact y_fieldP fl_152_1 1 rfl rfl) ?_
       refine va_ready [8] (by kernel_rfl) rfl ?_
       refine vo_cons rfl (fun hC0 => ?_) ?_
       ·skip
        refine vc_storeP 2 rfl [_] [_, _] rfl rfl rfl sz_138 rfl rfl rfl ?_
        refine vc_nil ?_
        refine vc_then ?_
        refine va_gone hC0 (by kernel_rfl) ?_
        clear hC0
        refine va_done (by kernel_rfl) ?_
        refine vc_then ?_
        refine vc_region ?_
        refine vp ?_
        refine vc_nil ?_
        refine vc_then ?_
        refine vc_seq ?_
        refine vc_seq ?_
        refine vc_region ?_
        iterate 3 refine vp ?_
        refine vc_guardF 41 rfl rfl rfl rfl ?_
        refine vc_guardF 41 rfl rfl rfl rfl ?_
        refine vc_guardF 41 rfl rfl rfl rfl ?_
        refine vc_guardF 41 rfl rfl rfl rfl ?_
        refine vp ?_
        refine vc_nil ?_
        refine vc_then ?_
        refine vc_condF rfl ?_
        refine vc_skip ?_
        refine vc_then ?_
        refine vc_region ?_
        refine vc_turn 1 rfl (RoSl eVer h37 (T[i].2.2 ++ [v])) Sl.share ?_
        refine vc_ent (ent_at [1, 7, 0, 0, 0, 0, 0, 0, 0] rfl (RoM.new (k := T[i].1))) ?_
        refine vp ?_
        refine vc_y (y_loadA 2 rfl (cs := [_, _]) ag_152 rfl (Pts.visA rfl)) rfl ?_
        refine vc_buildSlice (E := eOne) [(0, _)] [(T[i].1, h37, T[i].2.2 ++ [v])] rfl rfl (bs_65_1 _ _ ) rfl (fun h56 => ?_)
        refine vc_append 8 rfl 0 rfl (Sl.vis) el_65_eOne Tryz.underlying65 rfl rfl (by simp; omega) (by simp; omega) rfl (fun h57 => ?_)
        refine vp ?_
        refine vc_nil ?_
        refine vc_inNormal ?_
        refine vc_then ?_
        refine vc_region ?_
        refine vp ?_
        first | refine vc_y (y_arith _ rfl (wrapNadd (by omega))) rfl ?_ | refine vc_y (y_arith _ rfl (wrap64 (by omega) (by omega))) rfl ?_ | refine vp ?_
        refine vp ?_
        refine vc_nil ?_
        refine vc_then ?_
        first | exact vc_again (x := (i, p, hh, U)) (i + 1, true, h57, U ++ [(T[i].1, h37, T[i].2.2 ++ [v])]) ⟨hi2, by rw [hst, e1, mpT_append]; simp [mpT], by simp; omega⟩ (by show T.length - (i + 1) < T.length - i; omega) ⟨rfl, rfl, rfl, rfl, rfl, rfl, trivial⟩ (ent_pick [4, 4, 4, 4, 4, 1] rfl) | exact vc_again (x := (i, p, hh, U)) (i + 1, true, h57, U ++ [(key, h50, [v])] ++ [T[i]]) ⟨hi2, by rw [hst, lead_take hi2]; simp only [putGo, hk]; rw [if_neg (by simp), if_pos (by simp [*]), mpT_append, mpT_append]; simp [mpT], by simp; omega⟩ (by show T.length - (i + 1) < T.length - i; omega) ⟨rfl, rfl, rfl, rfl, rfl, rfl, trivial⟩ (ent_pick [4, 4, 4, 4, 4, 1] rfl) | exact vc_again (x := (i, p, hh, U)) (i + 1, p, h57, U ++ [T[i]]) ⟨hi2, by rw [hst, lead_take hi2]; simp only [putGo, hk]; rw [if_neg (by simp), if_neg (by simp [*]), mpT_append]; simp [mpT], by simp; omega⟩ (by show T.length - (i + 1) < T.length - i; omega) ⟨rfl, rfl, rfl, rfl, rfl, rfl, trivial⟩ (ent_pick [4, 4, 4, 4, 4, 1] rfl)
       exact vo_nil
      exact vo_nil
     exact vo_nil
    exact vo_nil
   refine vo_cons rfl (fun hC0 => ?_) ?_
   ·skip
    refine vc_buildSlice (E := eVer) [(0, _)] [v] rfl rfl (bs_138_1 _ _ _ _ _ ) rfl (fun h36 => ?_)
    refine vc_nil ?_
    refine vc_then ?_
    refine va_kept hC0 [2, 1, 1, 1, 1] rfl ?_
    clear hC0
    refine va_ready [0] (by kernel_rfl) rfl ?_
    refine vo_cons rfl (fun hC0 => ?_) ?_
    ·skip
     refine vc_buildSlice (E := eVer) [] [] rfl rfl (bs_138_0  ) rfl (fun h31 => ?_)
     refine vc_nil ?_
     refine vc_then ?_
     refine va_kept hC0 [3, 2, 2, 2, 2] rfl ?_
     clear hC0
     refine va_ready [3] (by kernel_rfl) rfl ?_
     refine vo_cons rfl (fun hC0 => ?_) ?_
     ·skip
      refine vc_append 0 rfl 6 rfl (RoM.vis (List.getElem_mem hi2)) el_138_eVer Tryz.underlying138 rfl rfl (by simp; omega) (by simp; omega) rfl (fun h34 => ?_)
      refine vc_nil ?_
      refine vc_then ?_
      refine va_kept hC0 [3, 2, 2, 2, 2] rfl ?_
      clear hC0
      refine va_ready [6] (by kernel_rfl) rfl ?_
      refine vo_cons rfl (fun hC0 => ?_) ?_
      ·skip
       refine vc_append 0 rfl 1 rfl (Sl.vis) el_138_eVer Tryz.underlying138 rfl rfl (by simp; omega) (by simp; omega) rfl (fun h37 => ?_)
       refine vc_nil ?_
       refine vc_then ?_
       refine va_kept hC0 [3, 2, 2, 2, 2] rfl ?_
       clear hC0
       refine tp 7 rfl (by exact y_fieldP fl_152_1 1 rfl rfl) ?_
       refine va_ready [8] (by kernel_rfl) rfl ?_
       refine vo_cons rfl (fun hC0 => ?_) ?_
       ·skip
        refine vc_storeP 2 rfl [_] [_, _] rfl rfl rfl sz_138 rfl rfl rfl ?_
        refine vc_nil ?_
        refine vc_then ?_
        refine va_gone hC0 (by kernel_rfl) ?_
        clear hC0
        refine va_done (by kernel_rfl) ?_
        refine vc_then ?_
        refine vc_region ?_
        refine vp ?_
        refine vc_nil ?_
        refine vc_then ?_
        refine vc_seq ?_
        refine vc_seq ?_
        refine vc_region ?_
        iterate 3 refine vp ?_
        refine vc_guardF 41 rfl rfl rfl rfl ?_
        refine vc_guardF 41 rfl rfl rfl rfl ?_
        refine vc_guardF 41 rfl rfl rfl rfl ?_
        refine vc_guardF 41 rfl rfl rfl rfl ?_
        refine vp ?_
        refine vc_nil ?_
        refine vc_then ?_
        refine vc_condF rfl ?_
        refine vc_skip ?_
        refine vc_then ?_
        refine vc_region ?_
        refine vc_turn 0 rfl (RoSl eVer h37 (T[i].2.2 ++ [v])) Sl.share ?_
        refine vc_ent (ent_at [0, 7, 0, 0, 0, 0, 0, 0, 0] rfl (RoM.new (k := T[i].1))) ?_
        refine vp ?_
        refine vc_y (y_loadA 2 rfl (cs := [_, _]) ag_152 rfl (Pts.visA rfl)) rfl ?_
        refine vc_buildSlice (E := eOne) [(0, _)] [(T[i].1, h37, T[i].2.2 ++ [v])] rfl rfl (bs_65_1 _ _ ) rfl (fun h56 => ?_)
        refine vc_append 8 rfl 0 rfl (Sl.vis) el_65_eOne Tryz.underlying65 rfl rfl (by simp; omega) (by simp; omega) rfl (fun h57 => ?_)
        refine vp ?_
        refine vc_nil ?_
        refine vc_inNormal ?_
        refine vc_then ?_
        refine vc_region ?_
        refine vp ?_
        first | refine vc_y (y_arith _ rfl (wrapNadd (by omega))) rfl ?_ | refine vc_y (y_arith _ rfl (wrap64 (by omega) (by omega))) rfl ?_ | refine vp ?_
        refine vp ?_
        refine vc_nil ?_
        refine vc_then ?_
        first | exact vc_again (x := (i, p, hh, U)) (i + 1, true, h57, U ++ [(T[i].1, h37, T[i].2.2 ++ [v])]) ⟨hi2, by rw [hst, e1, mpT_append]; simp [mpT], by simp; omega⟩ (by show T.length - (i + 1) < T.length - i; omega) ⟨rfl, rfl, rfl, rfl, rfl, rfl, trivial⟩ (ent_pick [4, 4, 4, 4, 4, 1] rfl) | exact vc_again (x := (i, p, hh, U)) (i + 1, true, h57, U ++ [(key, h50, [v])] ++ [T[i]]) ⟨hi2, by rw [hst, lead_take hi2]; simp only [putGo, hk]; rw [if_neg (by simp), if_pos (by simp [*]), mpT_append, mpT_append]; simp [mpT], by simp; omega⟩ (by show T.length - (i + 1) < T.length - i; omega) ⟨rfl, rfl, rfl, rfl, rfl, rfl, trivial⟩ (ent_pick [4, 4, 4, 4, 4, 1] rfl) | exact vc_again (x := (i, p, hh, U)) (i + 1, p, h57, U ++ [T[i]]) ⟨hi2, by rw [hst, lead_take hi2]; simp only [putGo, hk]; rw [if_neg (by simp), if_neg (by simp [*]), mpT_append]; simp [mpT], by simp; omega⟩ (by show T.length - (i + 1) < T.length - i; omega) ⟨rfl, rfl, rfl, rfl, rfl, rfl, trivial⟩ (ent_pick [4, 4, 4, 4, 4, 1] rfl)
       exact vo_nil
      exact vo_nil
     exact vo_nil
    exact vo_nil
   exact vo_nil
  ·skip
   have hk : sEq T[i].1 key = false := by simpa using c30
   refine vc_skip ?_
   refine vc_then ?_
   refine vc_seq ?_
   refine vc_seq ?_
   refine vc_region ?_
   iterate 3 refine vp ?_
   first | refine vc_splitP 41 rfl (fun c41 => ?_) (fun c41 => ?_) | refine vc_splitN 41 rfl (fun c41 => ?_) (fun c41 => ?_) | refine vc_split 41 rfl (fun c41 => ?_) (fun c41 => ?_)
   ·skip
    refine vc_guardT 41 rfl rfl ?_
    refine vc_y (y_fieldP fl_152_0 0 rfl rfl) rfl ?_
    refine vc_guardT 41 rfl rfl ?_
    refine vc_y (y_load1 0 rfl one_9 rfl (Pts.vis rfl)) rfl ?_
    refine vc_guardT 41 rfl rfl ?_
    refine vp ?_
    refine vc_guardT 41 rfl rfl ?_
    refine vp ?_
    refine vp ?_
    refine vc_nil ?_
    refine vc_then ?_
    first | refine vc_condP rfl (fun c46 => ?_) (fun c46 => ?_) | refine vc_condN rfl (fun c46 => ?_) (fun c46 => ?_) | refine vc_cond rfl (fun c46 => ?_) (fun c46 => ?_)
    ·skip
     rw [sGt_eq] at c46
     refine vc_seq ?_
     refine vc_region ?_
     refine vp ?_
     refine vp ?_
     refine vc_y (y_loadA 1 rfl (cs := [_, _, _, _, _]) ag_135 rfl (Pts.visA rfl)) rfl ?_
     refine vc_buildSlice (E := eVer) [(0, _)] [v] rfl rfl (bs_138_1 _ _ _ _ _ ) rfl (fun h50 => ?_)
     refine vc_y (y_build [(0, _), (1, _)] [_, _] rfl (bu_152_0_1 _ _ rfl rfl)) rfl ?_
     refine vc_buildSlice (E := eOne) [(0, _)] [(key, h50, [v])] rfl rfl (bs_65_1 _ _ ) rfl (fun h52 => ?_)
     refine vc_append 7 rfl 0 rfl (Sl.vis) el_65_eOne Tryz.underlying65 rfl rfl (by simp; omega) (by simp; omega) rfl (fun h53 => ?_)
     refine vp ?_
     refine vc_nil ?_
     refine vc_then ?_
     refine vc_region ?_
     refine vc_turn 1 rfl (RoSl eVer h50 [v]) Sl.share ?_
     refine vc_ent (ent_at [1, 7, 0, 0, 0, 0, 0, 0, 0] rfl (RoM.new (k := key))) ?_
     refine vp ?_
     refine vc_nil ?_
     refine vc_then ?_
     refine vc_region ?_
     refine vc_ent (ent_at [0, 5, 0, 0, 0, 0, 0, 0] rfl (RoM.keep (List.getElem_mem hi2))) ?_
     refine vp ?_
     refine vc_y (y_loadA 3 rfl (cs := [_, _]) ag_152 rfl (Pts.visA rfl)) rfl ?_
     refine vc_buildSlice (E := eOne) [(0, _)] [T[i]] rfl rfl (bs_65_1 _ _ ) rfl (fun h56 => ?_)
     refine vc_append 8 rfl 0 rfl (Sl.vis) el_65_eOne Tryz.underlying65 rfl rfl (by simp; omega) (by simp; omega) rfl (fun h57 => ?_)
     refine vp ?_
     refine vc_nil ?_
     refine vc_inNormal ?_
     refine vc_then ?_
     refine vc_region ?_
     refine vp ?_
     first | refine vc_y (y_arith _ rfl (wrapNadd (by omega))) rfl ?_ | refine vc_y (y_arith _ rfl (wrap64 (by omega) (by omega))) rfl ?_ | refine vp ?_
     refine vp ?_
     refine vc_nil ?_
     refine vc_then ?_
     first | exact vc_again (x := (i, p, hh, U)) (i + 1, true, h57, U ++ [(T[i].1, h37, T[i].2.2 ++ [v])]) ⟨hi2, by rw [hst, e1, mpT_append]; simp [mpT], by simp; omega⟩ (by show T.length - (i + 1) < T.length - i; omega) ⟨rfl, rfl, rfl, rfl, rfl, rfl, trivial⟩ (ent_pick [5, 5, 5, 2, 4, 1] rfl) | exact vc_again (x := (i, p, hh, U)) (i + 1, true, h57, U ++ [(key, h50, [v])] ++ [T[i]]) ⟨hi2, by rw [hst, lead_take hi2]; simp only [putGo, hk]; rw [if_neg (by simp), if_pos (by simp [*]), mpT_append, mpT_append]; simp [mpT], by simp; omega⟩ (by show T.length - (i + 1) < T.length - i; omega) ⟨rfl, rfl, rfl, rfl, rfl, rfl, trivial⟩ (ent_pick [5, 5, 5, 2, 4, 1] rfl) | exact vc_again (x := (i, p, hh, U)) (i + 1, p, h57, U ++ [T[i]]) ⟨hi2, by rw [hst, lead_take hi2]; simp only [putGo, hk]; rw [if_neg (by simp), if_neg (by simp [*]), mpT_append]; simp [mpT], by simp; omega⟩ (by show T.length - (i + 1) < T.length - i; omega) ⟨rfl, rfl, rfl, rfl, rfl, rfl, trivial⟩ (ent_pick [5, 5, 5, 2, 4, 1] rfl)
    ·skip
     rw [sGt_eq] at c46
     refine vc_skip ?_
     refine vc_then ?_
     refine vc_region ?_
     refine vc_ent (ent_at [6, 4, 0, 0, 0, 0, 0] rfl (RoM.keep (List.getElem_mem hi2))) ?_
     refine vp ?_
     refine vc_y (y_loadA 2 rfl (cs := [_, _]) ag_152 rfl (Pts.visA rfl)) rfl ?_
     refine vc_buildSlice (E := eOne) [(0, _)] [T[i]] rfl rfl (bs_65_1 _ _ ) rfl (fun h56 => ?_)
     refine vc_append 7 rfl 0 rfl (Sl.vis) el_65_eOne Tryz.underlying65 rfl rfl (by simp; omega) (by simp; omega) rfl (fun h57 => ?_)
     refine vp ?_
     refine vc_nil ?_
     refine vc_inNormal ?_
     refine vc_then ?_
     refine vc_region ?_
     refine vp ?_
     first | refine vc_y (y_arith _ rfl (wrapNadd (by omega))) rfl ?_ | refine vc_y (y_arith _ rfl (wrap64 (by omega) (by omega))) rfl ?_ | refine vp ?_
     refine vp ?_
     refine vc_nil ?_
     refine vc_then ?_
     first | exact vc_again (x := (i, p, hh, U)) (i + 1, true, h57, U ++ [(T[i].1, h37, T[i].2.2 ++ [v])]) ⟨hi2, by rw [hst, e1, mpT_append]; simp [mpT], by simp; omega⟩ (by show T.length - (i + 1) < T.length - i; omega) ⟨rfl, rfl, rfl, rfl, rfl, rfl, trivial⟩ (ent_pick [4, 4, 4, 2, 3, 1] rfl) | exact vc_again (x := (i, p, hh, U)) (i + 1, true, h57, U ++ [(key, h50, [v])] ++ [T[i]]) ⟨hi2, by rw [hst, lead_take hi2]; simp only [putGo, hk]; rw [if_neg (by simp), if_pos (by simp [*]), mpT_append, mpT_append]; simp [mpT], by simp; omega⟩ (by show T.length - (i + 1) < T.length - i; omega) ⟨rfl, rfl, rfl, rfl, rfl, rfl, trivial⟩ (ent_pick [4, 4, 4, 2, 3, 1] rfl) | exact vc_again (x := (i, p, hh, U)) (i + 1, p, h57, U ++ [T[i]]) ⟨hi2, by rw [hst, lead_take hi2]; simp only [putGo, hk]; rw [if_neg (by simp), if_neg (by simp [*]), mpT_append]; simp [mpT], by simp; omega⟩ (by show T.length - (i + 1) < T.length - i; omega) ⟨rfl, rfl, rfl, rfl, rfl, rfl, trivial⟩ (ent_pick [4, 4, 4, 2, 3, 1] rfl)
   ·skip
    refine vc_guardF 41 rfl rfl rfl rfl ?_
    refine vc_guardF 41 rfl rfl rfl rfl ?_
    refine vc_guardF 41 rfl rfl rfl rfl ?_
    refine vc_guardF 41 rfl rfl rfl rfl ?_
    refine vp ?_
    refine vc_nil ?_
    refine vc_then ?_
    refine vc_condF rfl ?_
    refine vc_skip ?_
    refine vc_then ?_
    refine vc_region ?_
    refine vc_ent (ent_at [6, 4, 0, 0, 0, 0, 0] rfl (RoM.keep (List.getElem_mem hi2))) ?_
    refine vp ?_
    refine vc_y (y_loadA 2 rfl (cs := [_, _]) ag_152 rfl (Pts.visA rfl)) rfl ?_
    refine vc_buildSlice (E := eOne) [(0, _)] [T[i]] rfl rfl (bs_65_1 _ _ ) rfl (fun h56 => ?_)
    refine vc_append 7 rfl 0 rfl (Sl.vis) el_65_eOne Tryz.underlying65 rfl rfl (by simp; omega) (by simp; omega) rfl (fun h57 => ?_)
    refine vp ?_
    refine vc_nil ?_
    refine vc_inNormal ?_
    refine vc_then ?_
    refine vc_region ?_
    refine vp ?_
    first | refine vc_y (y_arith _ rfl (wrapNadd (by omega))) rfl ?_ | refine vc_y (y_arith _ rfl (wrap64 (by omega) (by omega))) rfl ?_ | refine vp ?_
    refine vp ?_
    refine vc_nil ?_
    refine vc_then ?_
    first | exact vc_again (x := (i, p, hh, U)) (i + 1, true, h57, U ++ [(T[i].1, h37, T[i].2.2 ++ [v])]) ⟨hi2, by rw [hst, e1, mpT_append]; simp [mpT], by simp; omega⟩ (by show T.length - (i + 1) < T.length - i; omega) ⟨rfl, rfl, rfl, rfl, rfl, rfl, trivial⟩ (ent_pick [4, 4, 4, 2, 3, 1] rfl) | exact vc_again (x := (i, p, hh, U)) (i + 1, true, h57, U ++ [(key, h50, [v])] ++ [T[i]]) ⟨hi2, by rw [hst, lead_take hi2]; simp only [putGo, hk]; rw [if_neg (by simp), if_pos (by simp [*]), mpT_append, mpT_append]; simp [mpT], by simp; omega⟩ (by show T.length - (i + 1) < T.length - i; omega) ⟨rfl, rfl, rfl, rfl, rfl, rfl, trivial⟩ (ent_pick [4, 4, 4, 2, 3, 1] rfl) | exact vc_again (x := (i, p, hh, U)) (i + 1, p, h57, U ++ [T[i]]) ⟨hi2, by rw [hst, lead_take hi2]; simp only [putGo, hk]; rw [if_neg (by simp), if_neg (by simp [*]), mpT_append]; simp [mpT], by simp; omega⟩ (by show T.length - (i + 1) < T.length - i; omega) ⟨rfl, rfl, rfl, rfl, rfl, rfl, trivial⟩ (ent_pick [4, 4, 4, 2, 3, 1] rfl)
 ·skip
  obtain rfl : i = T.length := by omega
  have hb3 := hT.n
  rw [List.drop_length] at hst
  refine vc_exit ?_
  refine vc_thenExit ?_
  refine vc_thenExit ?_
  refine vc_inExit ?_
  refine vc_then ?_
  refine vc_seq ?_
  refine vc_seq ?_
  refine vc_region ?_
  refine vp ?_
  refine vp ?_
  refine vc_nil ?_
  refine vc_then ?_
  first | refine vc_condP rfl (fun c59 => ?_) (fun c59 => ?_) | refine vc_condN rfl (fun c59 => ?_) (fun c59 => ?_) | refine vc_cond rfl (fun c59 => ?_) (fun c59 => ?_)
  ·skip
   have hpf : p = false := notT c59
   refine vc_region ?_
   refine vp ?_
   refine vp ?_
   refine vc_y (y_loadA 0 rfl (cs := [_, _, _, _, _]) ag_135 rfl (Pts.visA rfl)) rfl ?_
   refine vc_buildSlice (E := eVer) [(0, _)] [v] rfl rfl (bs_138_1 _ _ _ _ _ ) rfl (fun h63 => ?_)
   refine vc_y (y_build [(0, _), (1, _)] [_, _] rfl (bu_152_0_1 _ _ rfl rfl)) rfl ?_
   refine vc_buildSlice (E := eOne) [(0, _)] [(key, h63, [v])] rfl rfl (bs_65_1 _ _ ) rfl (fun h65 => ?_)
   refine vc_append 6 rfl 0 rfl (Sl.vis) el_65_eOne Tryz.underlying65 rfl rfl (by simp; omega) (by simp; omega) rfl (fun h66 => ?_)
   refine vp ?_
   refine vc_nil ?_
   refine vc_then ?_
   refine vc_region ?_
   refine vc_turn 1 rfl (RoSl eVer h63 [v]) Sl.share ?_
   refine vc_ent (ent_at [1, 6, 0, 0, 0, 0, 0, 0] rfl (RoM.new (k := key))) ?_
   refine vc_turn 6 rfl (RoSl eOne _ _) Sl.share ?_
   iterate 3 refine vp ?_
   refine vc_y (y_fieldP fl_67_2 5 rfl rfl) rfl ?_
   refine vc_storeP 3 rfl [_] [_, _, _, _, _, _] rfl rfl rfl sz_65 rfl rfl rfl ?_
   refine vc_nil ?_
   exact vc_end0n Tryz.results155 _ (ent_pick [3, 5, 0] rfl) ⟨_, _, by rw [hst]; simp [putGo, *, mpT], rfl⟩
  ·skip
   have hpf : p = true := notF c59
   refine vc_skip ?_
   refine vc_then ?_
   refine vc_region ?_
   refine vc_turn 4 rfl (RoSl eOne _ _) Sl.share ?_
   iterate 3 refine vp ?_
   refine vc_y (y_fieldP fl_67_2 5 rfl rfl) rfl ?_
   refine vc_storeP 1 rfl [_] [_, _, _, _, _, _] rfl rfl rfl sz_65 rfl rfl rfl ?_
   refine vc_nil ?_
   exact vc_end0n Tryz.results155 _ (ent_pick [1, 3, 3] rfl) ⟨_, _, by rw [hst]; simp [putGo, *, mpT], rfl⟩
end Go.Proofs.YtcpbibdbahfgaaaGreat
namespace Go.Proofs.YtcpbibdbahfgaaaGreat
open Go.Eng
namespace FRef5
theorem sl_35 : TySl Tryz.prog 35 97 5 := ⟨Tryz.underlying35, by kernel_rfl⟩
theorem fl_97_0 : Fld Tryz.prog 97 0 0 := ⟨_, _, 0, Tryz.underlying97, rfl, rfl, by kernel_rfl⟩
theorem one_9 : TyOne Tryz.prog 9 := ⟨⟨_, Tryz.underlying9, rfl⟩, by kernel_rfl⟩
theorem ca_88 : Callable Tryz.prog 88 := ⟨_, _, Tryz.func88, rfl, rfl⟩
theorem fl_97_2 : Fld Tryz.prog 97 2 2 := ⟨_, _, 2, Tryz.underlying97, rfl, rfl, by kernel_rfl⟩
theorem ag_45 : TyAgg Tryz.prog 45 3 := ⟨⟨_, Tryz.underlying45, rfl⟩, by kernel_rfl⟩
theorem ca_41 : Callable Tryz.prog 41 := ⟨_, _, Tryz.func41, rfl, rfl⟩
theorem fl_97_1 : Fld Tryz.prog 97 1 1 := ⟨_, _, 0, Tryz.underlying97, rfl, rfl, by kernel_rfl⟩
theorem one_4 : TyOne Tryz.prog 4 := ⟨⟨_, Tryz.underlying4, rfl⟩, by kernel_rfl⟩
theorem ze_45 : (Tryz.prog.info? 45).map (·.zero) = some (some (.agg #[.bool false, .string ⟨#[]⟩, .int .u64 0])) := by kernel_rfl
theorem bu_45_n   (w : World) : (Instr.build 45 #[]).run Tryz.prog w = .ok (.agg #[.bool false, .string ⟨#[]⟩, .int .u64 0]) w := by
 have hz := @ze_45
 exact Go.Eng.run_build (pl := [(0, 1), (1, 1), (2, 1)]) hz Tryz.underlying45 (by kernel_rfl) rfl (by simp [Instr.fill, cells_agg]) w
theorem eg_45 : Tryz.prog.eqGuardType Tryz.prog.depth 45 = false := by kernel_rfl
theorem fl_67_0 : Fld Tryz.prog 67 0 0 := ⟨_, _, 3, Tryz.underlying67, rfl, rfl, by kernel_rfl⟩
theorem ag_24 : TyAgg Tryz.prog 24 4 := ⟨⟨_, Tryz.underlying24, rfl⟩, by kernel_rfl⟩
theorem fl_67_1 : Fld Tryz.prog 67 1 4 := ⟨_, _, 0, Tryz.underlying67, rfl, rfl, by kernel_rfl⟩
theorem one_64 : TyOne Tryz.prog 64 := ⟨⟨_, Tryz.underlying64, rfl⟩, by kernel_rfl⟩
theorem fl_67_2 : Fld Tryz.prog 67 2 5 := ⟨_, _, 0, Tryz.underlying67, rfl, rfl, by kernel_rfl⟩
theorem one_65 : TyOne Tryz.prog 65 := ⟨⟨_, Tryz.underlying65, rfl⟩, by kernel_rfl⟩
theorem ze_67 : (Tryz.prog.info? 67).map (·.zero) = some (some (.agg #[.slice none 0 0, .int .i64 0, .int .i64 0, .int .i64 0, .pointer none, .slice none 0 0])) := by kernel_rfl
theorem bu_67_0_1_2 (v0_0 v0_1 v0_2 v0_3 : Value) (v1 : Value) (v2 : Value) (h1 : v1.cells = #[v1]) (h2 : v2.cells = #[v2]) (w : World) : (Instr.build 67 #[(0, .agg #[v0_0, v0_1, v0_2, v0_3]), (1, v1), (2, v2)]).run Tryz.prog w = .ok (.agg #[v0_0, v0_1, v0_2, v0_3, v1, v2]) w := by
 have hz := @ze_67
 exact Go.Eng.run_build (pl := [(0, 4), (4, 1), (5, 1)]) hz Tryz.underlying67 (by kernel_rfl) rfl (by simp [Instr.fill, h1, h2, cells_agg]) w
theorem ze_135 : (Tryz.prog.info? 135).map (·.zero) = some (some (.agg #[.int .i64 0, .bool false, .bool false, .string ⟨#[]⟩, .int .u64 0])) := by kernel_rfl
theorem bu_135_0_1_2 (v0 : Value) (v1 : Value) (v2_0 v2_1 v2_2 : Value) (h0 : v0.cells = #[v0]) (h1 : v1.cells = #[v1]) (w : World) : (Instr.build 135 #[(0, v0), (1, v1), (2, .agg #[v2_0, v2_1, v2_2])]).run Tryz.prog w = .ok (.agg #[v0, v1, v2_0, v2_1, v2_2]) w := by
 have hz := @ze_135
 exact Go.Eng.run_build (pl := [(0, 1), (1, 1), (2, 3)]) hz Tryz.underlying135 (by kernel_rfl) rfl (by simp [Instr.fill, h0, h1, cells_agg]) w
theorem ca_155 : Callable Tryz.prog 155 := ⟨_, _, Tryz.func155, rfl, rfl⟩
theorem fl_24_3 : Fld Tryz.prog 24 3 3 := ⟨_, _, 0, Tryz.underlying24, rfl, rfl, by kernel_rfl⟩
theorem one_3 : TyOne Tryz.prog 3 := ⟨⟨_, Tryz.underlying3, rfl⟩, by kernel_rfl⟩
theorem ca_37 : Callable Tryz.prog 37 := ⟨_, _, Tryz.func37, rfl, rfl⟩
theorem fl_24_2 : Fld Tryz.prog 24 2 2 := ⟨_, _, 0, Tryz.underlying24, rfl, rfl, by kernel_rfl⟩
theorem ca_118 : Callable Tryz.prog 118 := ⟨_, _, Tryz.func118, rfl, rfl⟩
theorem ca_89 : Callable Tryz.prog 89 := ⟨_, _, Tryz.func89, rfl, rfl⟩
end FRef5
open FRef5
theorem refKey_spec (s : ByteArray) : Does Tryz.prog 88 [.string s] [] (fun v l => v = .bool (wkeyOk s) ∧ l = []) := by
 refine spec_of Tryz.func88 rfl Tryz.ntmps88 Tryz.results88 _ (by simp) fun ι F => ?_
 refine vc_seq ?_
 refine vc_region ?_
 refine vp ?_
 refine vc_nil ?_
 refine vc_then ?_
 refine vc_seq ?_
 refine vc_region ?_
 refine vp ?_
 refine vc_y (y_strLen Tryz.underlying9 rfl) rfl ?_
 refine vp ?_
 refine vp ?_
 first | refine vc_splitP 6 rfl (fun c6 => ?_) (fun c6 => ?_) | refine vc_splitN 6 rfl (fun c6 => ?_) (fun c6 => ?_) | refine vc_split 6 rfl (fun c6 => ?_) (fun c6 => ?_)
 ·skip
  refine vc_guardT 6 rfl rfl ?_
  refine vp ?_
  refine vc_guardT 6 rfl rfl ?_
  refine vc_y (y_strLen Tryz.underlying9 rfl) rfl ?_
  refine vc_guardT 6 rfl rfl ?_
  iterate 3 refine vp ?_
  refine vc_nil ?_
  refine vc_then ?_
  refine vc_ret ?_
  exact vc_end1 Tryz.results88 rfl _ (ent_pick [] rfl) ⟨by simp [wkeyOk, *], rfl⟩
 ·skip
  refine vc_guardF 6 rfl rfl rfl rfl ?_
  refine vc_guardF 6 rfl rfl rfl rfl ?_
  refine vc_guardF 6 rfl rfl rfl rfl ?_
  refine vp ?_
  refine vp ?_
  refine vc_nil ?_
  refine vc_then ?_
  refine vc_ret ?_
  exact vc_end1 Tryz.results88 rfl _ (ent_pick [] rfl) ⟨by simp [wkeyOk, *], rfl⟩
theorem refMay_spec {A : HP} {h : SH} {ws : List Wr} (hv : Vis A (Rd eWr h ws)) (hb : ws.length ≤ 1000000) (hbits : ∀ w ∈ ws, 0 ≤ w.val.bits ∧ w.val.bits ≤ 18446744073709551615) : Does Tryz.prog 35 [h.v] [A] (fun v l => v = .bool (mayW ws) ∧ l = [A]) := by
 refine spec_of Tryz.func35 rfl Tryz.ntmps35 Tryz.results35 _ (by simp) fun ι F => ?_
 refine vc_see 0 rfl (hv.imp fun w r => r.len) (fun hlen => ?_)
 refine vc_seq ?_
 refine vc_region ?_
 refine vp ?_
 refine vc_nil ?_
 refine vc_then ?_
 refine vc_seq ?_
 refine vc_seq ?_
 refine vc_region ?_
 refine vp ?_
 refine vc_y (y_len Tryz.underlying35 rfl (by first | assumption | rfl)) rfl ?_
 refine vp ?_
 refine vp ?_
 first | refine vc_splitP 7 rfl (fun c7 => ?_) (fun c7 => ?_) | refine vc_splitN 7 rfl (fun c7 => ?_) (fun c7 => ?_) | refine vc_split 7 rfl (fun c7 => ?_) (fun c7 => ?_)
 ·skip
  have hno : mayW ws = false := by simp [mayW]; omega
  refine vc_guardF 7 rfl rfl rfl rfl ?_
  refine vc_guardF 7 rfl rfl rfl rfl ?_
  refine vc_guardF 7 rfl rfl rfl rfl ?_
  refine vp ?_
  refine vc_nil ?_
  refine vc_then ?_
  refine vc_condT rfl ?_
  refine vc_seq ?_
  refine vc_region ?_
  refine vp ?_
  refine vc_nil ?_
  refine vc_then ?_
  refine vc_ret ?_
  refine vc_thenRet ?_
  exact vc_end1 Tryz.results35 rfl _ (ent_pick [0] rfl) ⟨by first | (rw [hno]) | (unfold mayW; rw [hch, List.drop_length, show mayFrom (lastK ws ws.length) [] = true from rfl, Bool.true_and]; simp; omega) | (unfold mayW; rw [hch2, hwr]; rfl) | (unfold mayW; rw [hch2, hls]; simp [lkLt, hlt]), rfl⟩
 ·skip
  refine vc_guardT 7 rfl rfl ?_
  refine vp ?_
  refine vc_guardT 7 rfl rfl ?_
  refine vc_y (y_len Tryz.underlying35 rfl (by first | assumption | rfl)) rfl ?_
  refine vc_guardT 7 rfl rfl ?_
  refine vp ?_
  refine vp ?_
  refine vc_nil ?_
  refine vc_then ?_
  first | refine vc_condP rfl (fun c11 => ?_) (fun c11 => ?_) | refine vc_condN rfl (fun c11 => ?_) (fun c11 => ?_) | refine vc_cond rfl (fun c11 => ?_) (fun c11 => ?_)
  ·skip
   have hno : mayW ws = false := by simp [mayW]; omega
   refine vc_seq ?_
   refine vc_region ?_
   refine vp ?_
   refine vc_nil ?_
   refine vc_then ?_
   refine vc_ret ?_
   refine vc_thenRet ?_
   exact vc_end1 Tryz.results35 rfl _ (ent_pick [0] rfl) ⟨by first | (rw [hno]) | (unfold mayW; rw [hch, List.drop_length, show mayFrom (lastK ws ws.length) [] = true from rfl, Bool.true_and]; simp; omega) | (unfold mayW; rw [hch2, hwr]; rfl) | (unfold mayW; rw [hch2, hls]; simp [lkLt, hlt]), rfl⟩
  ·skip
   have hlw : 1 ≤ ws.length ∧ ws.length ≤ 16 := by omega
   refine vc_skip ?_
   refine vc_then ?_
   refine vc_seq ?_
   refine vc_seq ?_
   refine vc_region ?_
   refine vp ?_
   refine vc_nil ?_
   refine vc_then ?_
   refine vc_block ?_
   refine vc_loop (α := Nat) (fun xq_ => match xq_ with | i => [(0, h.v), (3, .int .i64 (i : Int))]) (fun xq_ => match xq_ with | i => [A]) (fun xq_ => match xq_ with | i => ws.length - i) (fun xq_ => match xq_ with | i => i ≤ ws.length ∧ mayFrom none ws = mayFrom (lastK ws i) (ws.drop i)) 0 ⟨Nat.zero_le _, rfl⟩ ⟨rfl, rfl, trivial⟩ (ent_pick [0] rfl) ?_
   rintro i ⟨hi, hch⟩
   show VC _ _ _ _ [(0, h.v), (3, .int .i64 (i : Int))] ([A])
   refine vc_seq ?_
   refine vc_seq ?_
   refine vc_region ?_
   refine vp ?_
   refine vp ?_
   refine vc_y (y_len Tryz.underlying35 rfl (by first | assumption | rfl)) rfl ?_
   refine vp ?_
   refine vc_nil ?_
   refine vc_then ?_
   first | refine vc_condP rfl (fun c15 => ?_) (fun c15 => ?_) | refine vc_condN rfl (fun c15 => ?_) (fun c15 => ?_) | refine vc_cond rfl (fun c15 => ?_) (fun c15 => ?_)
   ·skip
    have hi2 : i < ws.length := by omega
    have hch2 : mayFrom none ws = (wrRight ws[i] && (lkLt (lastK ws i) ws[i].key && mayFrom (some ws[i].key) (ws.drop (i + 1)))) := by rw [hch, List.drop_eq_getElem_cons hi2]; rfl
    refine vc_skip ?_
    refine vc_then ?_
    refine vc_seq ?_
    refine vc_block ?_
    refine vc_seq ?_
    refine vc_draw (by kernel_rfl) _ none [0] rfl ?_
    refine tpp 0 ?_
    refine tpp 1 ?_
    refine tk 2 rfl (by exact y_elem 0 rfl (hv) i rfl hi2 sl_35 rfl rfl) ?_
    refine tp 3 rfl (by exact y_fieldE fl_97_0 0 rfl rfl) ?_
    refine tk 4 rfl (by exact y_load1 0 rfl one_9 rfl (Rd.vis1 (hv) (List.getElem?_eq_getElem (by first | assumption | omega)) rfl)) ?_
    refine va_ready [5] (by kernel_rfl) rfl ?_
    refine vo_cons rfl (fun hC0 => ?_) ?_
    ·skip
     refine vc_callv ca_88 (us := []) (vs := []) rfl [_] rfl [] rfl (refKey_spec _) rfl ?_
     rintro _ _ ⟨rfl, rfl⟩
     refine vc_nil ?_
     refine vc_then ?_
     refine va_kept hC0 [0] rfl ?_
     clear hC0
     refine tpp 6 ?_
     refine tpp 7 ?_
     first | refine va_splitP 25 rfl (fun c25 => ?_) (fun c25 => ?_) | refine va_splitN 25 rfl (fun c25 => ?_) (fun c25 => ?_) | refine va_split 25 rfl (fun c25 => ?_) (fun c25 => ?_)
     ·skip
      have hk : wkeyOk ws[i].key = false := notT c25
      have hwr : wrRight ws[i] = false := by simp [wrRight, hk]
      refine sk 8 25 ?_
      refine sk 9 25 ?_
      refine sk 10 25 ?_
      refine sk 11 25 ?_
      refine sk 12 25 ?_
      refine sk 13 25 ?_
      refine sk 14 25 ?_
      refine tpp 15 ?_
      refine tpp 16 ?_
      refine sk 17 34 ?_
      refine sk 18 34 ?_
      refine sk 19 34 ?_
      refine sk 20 34 ?_
      refine sk 21 34 ?_
      refine sk 22 34 ?_
      refine sku 23 40 ?_
      refine sku 24 40 ?_
      refine sku 25 40 ?_
      refine sku 26 40 ?_
      refine sku 27 40 ?_
      refine sku 28 40 ?_
      refine sku 29 40 ?_
      refine sk 30 34 ?_
      refine tpp 31 ?_
      refine tpp 32 ?_
      refine sk 33 50 ?_
      refine sk 34 50 ?_
      refine sk 35 50 ?_
      refine sku 36 53 ?_
      refine sku 37 53 ?_
      refine sku 38 53 ?_
      refine sku 39 53 ?_
      refine sku 40 53 ?_
      refine sku 41 53 ?_
      refine sku 42 53 ?_
      refine sku 43 53 ?_
      refine sku 44 53 ?_
      refine sku 45 53 ?_
      refine sku 46 53 ?_
      refine sku 47 53 ?_
      refine sk 48 50 ?_
      refine tpp 49 ?_
      refine va_done (by kernel_rfl) ?_
      refine vc_then ?_
      refine vc_condT rfl ?_
      refine vc_seq ?_
      refine vc_region ?_
      refine vp ?_
      refine vc_nil ?_
      refine vc_then ?_
      refine vc_ret ?_
      refine vc_inRet ?_
      refine vc_thenRet ?_
      refine vc_thenRet ?_
      refine vc_inRet ?_
      refine vc_thenRet ?_
      exact vc_end1 Tryz.results35 rfl _ (ent_pick [0] rfl) ⟨by first | (rw [hno]) | (unfold mayW; rw [hch, List.drop_length, show mayFrom (lastK ws ws.length) [] = true from rfl, Bool.true_and]; simp; omega) | (unfold mayW; rw [hch2, hwr]; rfl) | (unfold mayW; rw [hch2, hls]; simp [lkLt, hlt]), rfl⟩
     ·skip
      have hk : wkeyOk ws[i].key = true := notF c25
      refine tgp 8 25 ?_
      refine tgp 9 25 ?_
      refine tkg 10 25 rfl (by exact y_elem 0 rfl (hv) i rfl hi2 sl_35 rfl rfl) ?_
      refine tg 11 25 rfl (by exact y_fieldE fl_97_2 2 rfl rfl) ?_
      refine tkg 12 25 rfl (by exact y_loadA 0 rfl (cs := [_, _, _]) ag_45 rfl (Rd.visA (hv) (List.getElem?_eq_getElem (by first | assumption | omega)) rfl)) ?_
      refine va_ready [13] (by kernel_rfl) rfl ?_
      refine vo_cons rfl (fun hC0 => ?_) ?_
      ·skip
       refine vc_guardT 25 rfl rfl ?_
       refine vc_callv ca_41 (us := []) (vs := []) rfl [_] rfl [] rfl (refVRight_spec ws[i].val (hbits _ (List.getElem_mem hi2))) rfl ?_
       rintro _ _ ⟨rfl, rfl⟩
       refine vc_nil ?_
       refine vc_then ?_
       refine va_kept hC0 [0] rfl ?_
       clear hC0
       refine tgp 14 25 ?_
       refine tpp 15 ?_
       refine tpp 16 ?_
       first | refine va_splitP 34 rfl (fun c34 => ?_) (fun c34 => ?_) | refine va_splitN 34 rfl (fun c34 => ?_) (fun c34 => ?_) | refine va_split 34 rfl (fun c34 => ?_) (fun c34 => ?_)
       ·skip
        have hvr : valRight ws[i].val = false := notT c34
        have hwr : wrRight ws[i] = false := by simp [wrRight, hvr]
        refine sk 17 34 ?_
        refine sk 18 34 ?_
        refine sk 19 34 ?_
        refine sk 20 34 ?_
        refine sk 21 34 ?_
        refine sk 22 34 ?_
        refine sku 23 40 ?_
        refine sku 24 40 ?_
        refine sku 25 40 ?_
        refine sku 26 40 ?_
        refine sku 27 40 ?_
        refine sku 28 40 ?_
        refine sku 29 40 ?_
        refine sk 30 34 ?_
        refine tpp 31 ?_
        refine tpp 32 ?_
        refine sk 33 50 ?_
        refine sk 34 50 ?_
        refine sk 35 50 ?_
        refine sku 36 53 ?_
        refine sku 37 53 ?_
        refine sku 38 53 ?_
        refine sku 39 53 ?_
        refine sku 40 53 ?_
        refine sku 41 53 ?_
        refine sku 42 53 ?_
        refine sku 43 53 ?_
        refine sku 44 53 ?_
        refine sku 45 53 ?_
        refine sku 46 53 ?_
        refine sku 47 53 ?_
        refine sk 48 50 ?_
        refine tpp 49 ?_
        refine va_done (by kernel_rfl) ?_
        refine vc_then ?_
        refine vc_condT rfl ?_
        refine vc_seq ?_
        refine vc_region ?_
        refine vp ?_
        refine vc_nil ?_
        refine vc_then ?_
        refine vc_ret ?_
        refine vc_inRet ?_
        refine vc_thenRet ?_
        refine vc_thenRet ?_
        refine vc_inRet ?_
        refine vc_thenRet ?_
        exact vc_end1 Tryz.results35 rfl _ (ent_pick [0] rfl) ⟨by first | (rw [hno]) | (unfold mayW; rw [hch, List.drop_length, show mayFrom (lastK ws ws.length) [] = true from rfl, Bool.true_and]; simp; omega) | (unfold mayW; rw [hch2, hwr]; rfl) | (unfold mayW; rw [hch2, hls]; simp [lkLt, hlt]), rfl⟩
       ·skip
        have hvr : valRight ws[i].val = true := notF c34
        refine tgp 17 34 ?_
        refine tgp 18 34 ?_
        refine tkg 19 34 rfl (by exact y_elem 0 rfl (hv) i rfl hi2 sl_35 rfl rfl) ?_
        refine tg 20 34 rfl (by exact y_fieldE fl_97_1 1 rfl rfl) ?_
        refine tkg 21 34 rfl (by exact y_load1 0 rfl one_4 rfl (Rd.vis1 (hv) (List.getElem?_eq_getElem (by first | assumption | omega)) rfl)) ?_
        refine tgp 22 34 ?_
        first | refine va_splitP 40 rfl (fun c40 => ?_) (fun c40 => ?_) | refine va_splitN 40 rfl (fun c40 => ?_) (fun c40 => ?_) | refine va_split 40 rfl (fun c40 => ?_) (fun c40 => ?_)
        ·skip
         refine tgp 23 40 ?_
         refine tgp 24 40 ?_
         refine tkg 25 40 rfl (by exact y_elem 0 rfl (hv) i rfl hi2 sl_35 rfl rfl) ?_
         refine tg 26 40 rfl (by exact y_fieldE fl_97_2 2 rfl rfl) ?_
         refine tkg 27 40 rfl (by exact y_loadA 0 rfl (cs := [_, _, _]) ag_45 rfl (Rd.visA (hv) (List.getElem?_eq_getElem (by first | assumption | omega)) rfl)) ?_
         refine tg 28 40 rfl (by exact y_build [] [_, _, _] rfl (bu_45_n  )) ?_
         refine tg 29 40 rfl (by exact y_neS eg_45 (eqv_45 _ _ _ _ _ _) rfl rfl) ?_
         refine tgp 30 34 ?_
         refine tpp 31 ?_
         refine tpp 32 ?_
         first | refine va_splitP 50 rfl (fun c50 => ?_) (fun c50 => ?_) | refine va_splitN 50 rfl (fun c50 => ?_) (fun c50 => ?_) | refine va_split 50 rfl (fun c50 => ?_) (fun c50 => ?_)
         ·skip
          have hz : valEq ws[i].val val0 = false := notT c50
          have hwr : wrRight ws[i] = false := by simp [wrRight, hz, show ws[i].gone = true from c40]
          refine sk 33 50 ?_
          refine sk 34 50 ?_
          refine sk 35 50 ?_
          refine sku 36 53 ?_
          refine sku 37 53 ?_
          refine sku 38 53 ?_
          refine sku 39 53 ?_
          refine sku 40 53 ?_
          refine sku 41 53 ?_
          refine sku 42 53 ?_
          refine sku 43 53 ?_
          refine sku 44 53 ?_
          refine sku 45 53 ?_
          refine sku 46 53 ?_
          refine sku 47 53 ?_
          refine sk 48 50 ?_
          refine tpp 49 ?_
          refine va_done (by kernel_rfl) ?_
          refine vc_then ?_
          refine vc_condT rfl ?_
          refine vc_seq ?_
          refine vc_region ?_
          refine vp ?_
          refine vc_nil ?_
          refine vc_then ?_
          refine vc_ret ?_
          refine vc_inRet ?_
          refine vc_thenRet ?_
          refine vc_thenRet ?_
          refine vc_inRet ?_
          refine vc_thenRet ?_
          exact vc_end1 Tryz.results35 rfl _ (ent_pick [0] rfl) ⟨by first | (rw [hno]) | (unfold mayW; rw [hch, List.drop_length, show mayFrom (lastK ws ws.length) [] = true from rfl, Bool.true_and]; simp; omega) | (unfold mayW; rw [hch2, hwr]; rfl) | (unfold mayW; rw [hch2, hls]; simp [lkLt, hlt]), rfl⟩
         ·skip
          have hz : valEq ws[i].val val0 = true := notF c50
          have hwr : wrRight ws[i] = true := by simp [wrRight, hk, hvr, hz]
          refine tgp 33 50 ?_
          refine tgp 34 50 ?_
          refine tgp 35 50 ?_
          first | refine va_splitP 53 rfl (fun c53 => ?_) (fun c53 => ?_) | refine va_splitN 53 rfl (fun c53 => ?_) (fun c53 => ?_) | refine va_split 53 rfl (fun c53 => ?_) (fun c53 => ?_)
          ·skip
           have hls := lastK_pos (xs := ws) (i := i) (by omega) (by omega)
           refine tgp 36 53 ?_
           refine tgp 37 53 ?_
           refine tg 38 53 rfl (by exact y_arith ((i - 1 : Nat) : Int) rfl (wrapNsub (by omega))) ?_
           refine tkg 39 53 rfl (by exact y_elem 0 rfl (hv) (i - 1) rfl (by omega) sl_35 rfl rfl) ?_
           refine tg 40 53 rfl (by exact y_fieldE fl_97_0 0 rfl rfl) ?_
           refine tkg 41 53 rfl (by exact y_load1 0 rfl one_9 rfl (Rd.vis1 (hv) (List.getElem?_eq_getElem (by first | assumption | omega)) rfl)) ?_
           refine tgp 42 53 ?_
           refine tgp 43 53 ?_
           refine tkg 44 53 rfl (by exact y_elem 0 rfl (hv) i rfl hi2 sl_35 rfl rfl) ?_
           refine tg 45 53 rfl (by exact y_fieldE fl_97_0 0 rfl rfl) ?_
           refine tkg 46 53 rfl (by exact y_load1 0 rfl one_9 rfl (Rd.vis1 (hv) (List.getElem?_eq_getElem (by first | assumption | omega)) rfl)) ?_
           refine tgp 47 53 ?_
           refine tgp 48 50 ?_
           refine tpp 49 ?_
           refine va_done (by kernel_rfl) ?_
           refine vc_then ?_
           first | refine vc_condP rfl (fun c67 => ?_) (fun c67 => ?_) | refine vc_condN rfl (fun c67 => ?_) (fun c67 => ?_) | refine vc_cond rfl (fun c67 => ?_) (fun c67 => ?_)
           ·skip
            try have hlt : sLt (ws[i - 1]'(by omega)).key ws[i].key = false := notT c67
            refine vc_seq ?_
            refine vc_region ?_
            refine vp ?_
            refine vc_nil ?_
            refine vc_then ?_
            refine vc_ret ?_
            refine vc_inRet ?_
            refine vc_thenRet ?_
            refine vc_thenRet ?_
            refine vc_inRet ?_
            refine vc_thenRet ?_
            exact vc_end1 Tryz.results35 rfl _ (ent_pick [0] rfl) ⟨by first | (rw [hno]) | (unfold mayW; rw [hch, List.drop_length, show mayFrom (lastK ws ws.length) [] = true from rfl, Bool.true_and]; simp; omega) | (unfold mayW; rw [hch2, hwr]; rfl) | (unfold mayW; rw [hch2, hls]; simp [lkLt, hlt]), rfl⟩
           ·skip
            try have hlt : sLt (ws[i - 1]'(by omega)).key ws[i].key = true := notF c67
            refine vc_skip ?_
            refine vc_inNormal ?_
            refine vc_then ?_
            refine vc_region ?_
            refine vp ?_
            first | refine vc_y (y_arith _ rfl (wrapNadd (by omega))) rfl ?_ | refine vc_y (y_arith _ rfl (wrap64 (by omega) (by omega))) rfl ?_ | refine vp ?_
            refine vp ?_
            refine vc_nil ?_
            refine vc_then ?_
            exact vc_again (x := i) (i + 1) ⟨hi2, by rw [hch2, lastK_succ hi2, hwr, hls]; simp [lkLt, *]⟩ (by show ws.length - (i + 1) < ws.length - i; omega) ⟨rfl, rfl, trivial⟩ (ent_pick [0] rfl)
          ·skip
           have hls : lastK ws i = none := by
            obtain rfl : i = 0 := by omega
            rfl
           refine sk 36 53 ?_
           refine sk 37 53 ?_
           refine sk 38 53 ?_
           refine sk 39 53 ?_
           refine sk 40 53 ?_
           refine sk 41 53 ?_
           refine sk 42 53 ?_
           refine sk 43 53 ?_
           refine sk 44 53 ?_
           refine sk 45 53 ?_
           refine sk 46 53 ?_
           refine sk 47 53 ?_
           refine tgp 48 50 ?_
           refine tpp 49 ?_
           refine va_done (by kernel_rfl) ?_
           refine vc_then ?_
           refine vc_condF rfl ?_
           refine vc_skip ?_
           refine vc_inNormal ?_
           refine vc_then ?_
           refine vc_region ?_
           refine vp ?_
           first | refine vc_y (y_arith _ rfl (wrapNadd (by omega))) rfl ?_ | refine vc_y (y_arith _ rfl (wrap64 (by omega) (by omega))) rfl ?_ | refine vp ?_
           refine vp ?_
           refine vc_nil ?_
           refine vc_then ?_
           exact vc_again (x := i) (i + 1) ⟨hi2, by rw [hch2, lastK_succ hi2, hwr, hls]; simp [lkLt, *]⟩ (by show ws.length - (i + 1) < ws.length - i; omega) ⟨rfl, rfl, trivial⟩ (ent_pick [0] rfl)
        ·skip
         have hwr : wrRight ws[i] = true := by simp [wrRight, hk, hvr, show ws[i].gone = false from c40]
         refine sk 23 40 ?_
         refine sk 24 40 ?_
         refine sk 25 40 ?_
         refine sk 26 40 ?_
         refine sk 27 40 ?_
         refine sk 28 40 ?_
         refine sk 29 40 ?_
         refine tgp 30 34 ?_
         refine tpp 31 ?_
         refine tpp 32 ?_
         refine tgp 33 50 ?_
         refine tgp 34 50 ?_
         refine tgp 35 50 ?_
         first | refine va_splitP 53 rfl (fun c53 => ?_) (fun c53 => ?_) | refine va_splitN 53 rfl (fun c53 => ?_) (fun c53 => ?_) | refine va_split 53 rfl (fun c53 => ?_) (fun c53 => ?_)
         ·skip
          have hls := lastK_pos (xs := ws) (i := i) (by omega) (by omega)
          refine tgp 36 53 ?_
          refine tgp 37 53 ?_
          refine tg 38 53 rfl (by exact y_arith ((i - 1 : Nat) : Int) rfl (wrapNsub (by omega))) ?_
          refine tkg 39 53 rfl (by exact y_elem 0 rfl (hv) (i - 1) rfl (by omega) sl_35 rfl rfl) ?_
          refine tg 40 53 rfl (by exact y_fieldE fl_97_0 0 rfl rfl) ?_
          refine tkg 41 53 rfl (by exact y_load1 0 rfl one_9 rfl (Rd.vis1 (hv) (List.getElem?_eq_getElem (by first | assumption | omega)) rfl)) ?_
          refine tgp 42 53 ?_
          refine tgp 43 53 ?_
          refine tkg 44 53 rfl (by exact y_elem 0 rfl (hv) i rfl hi2 sl_35 rfl rfl) ?_
          refine tg 45 53 rfl (by exact y_fieldE fl_97_0 0 rfl rfl) ?_
          refine tkg 46 53 rfl (by exact y_load1 0 rfl one_9 rfl (Rd.vis1 (hv) (List.getElem?_eq_getElem (by first | assumption | omega)) rfl)) ?_
          refine tgp 47 53 ?_
          refine tgp 48 50 ?_
          refine tpp 49 ?_
          refine va_done (by kernel_rfl) ?_
          refine vc_then ?_
          first | refine vc_condP rfl (fun c67 => ?_) (fun c67 => ?_) | refine vc_condN rfl (fun c67 => ?_) (fun c67 => ?_) | refine vc_cond rfl (fun c67 => ?_) (fun c67 => ?_)
          ·skip
           try have hlt : sLt (ws[i - 1]'(by omega)).key ws[i].key = false := notT c67
           refine vc_seq ?_
           refine vc_region ?_
           refine vp ?_
           refine vc_nil ?_
           refine vc_then ?_
           refine vc_ret ?_
           refine vc_inRet ?_
           refine vc_thenRet ?_
           refine vc_thenRet ?_
           refine vc_inRet ?_
           refine vc_thenRet ?_
           exact vc_end1 Tryz.results35 rfl _ (ent_pick [0] rfl) ⟨by first | (rw [hno]) | (unfold mayW; rw [hch, List.drop_length, show mayFrom (lastK ws ws.length) [] = true from rfl, Bool.true_and]; simp; omega) | (unfold mayW; rw [hch2, hwr]; rfl) | (unfold mayW; rw [hch2, hls]; simp [lkLt, hlt]), rfl⟩
          ·skip
           try have hlt : sLt (ws[i - 1]'(by omega)).key ws[i].key = true := notF c67
           refine vc_skip ?_
           refine vc_inNormal ?_
           refine vc_then ?_
           refine vc_region ?_
           refine vp ?_
           first | refine vc_y (y_arith _ rfl (wrapNadd (by omega))) rfl ?_ | refine vc_y (y_arith _ rfl (wrap64 (by omega) (by omega))) rfl ?_ | refine vp ?_
           refine vp ?_
           refine vc_nil ?_
           refine vc_then ?_
           exact vc_again (x := i) (i + 1) ⟨hi2, by rw [hch2, lastK_succ hi2, hwr, hls]; simp [lkLt, *]⟩ (by show ws.length - (i + 1) < ws.length - i; omega) ⟨rfl, rfl, trivial⟩ (ent_pick [0] rfl)
         ·skip
          have hls : lastK ws i = none := by
           obtain rfl : i = 0 := by omega
           rfl
          refine sk 36 53 ?_
          refine sk 37 53 ?_
          refine sk 38 53 ?_
          refine sk 39 53 ?_
          refine sk 40 53 ?_
          refine sk 41 53 ?_
          refine sk 42 53 ?_
          refine sk 43 53 ?_
          refine sk 44 53 ?_
          refine sk 45 53 ?_
          refine sk 46 53 ?_
          refine sk 47 53 ?_
          refine tgp 48 50 ?_
          refine tpp 49 ?_
          refine va_done (by kernel_rfl) ?_
          refine vc_then ?_
          refine vc_condF rfl ?_
          refine vc_skip ?_
          refine vc_inNormal ?_
          refine vc_then ?_
          refine vc_region ?_
          refine vp ?_
          first | refine vc_y (y_arith _ rfl (wrapNadd (by omega))) rfl ?_ | refine vc_y (y_arith _ rfl (wrap64 (by omega) (by omega))) rfl ?_ | refine vp ?_
          refine vp ?_
          refine vc_nil ?_
          refine vc_then ?_
          exact vc_again (x := i) (i + 1) ⟨hi2, by rw [hch2, lastK_succ hi2, hwr, hls]; simp [lkLt, *]⟩ (by show ws.length - (i + 1) < ws.length - i; omega) ⟨rfl, rfl, trivial⟩ (ent_pick [0] rfl)
      exact vo_nil
    exact vo_nil
   ·skip
    obtain rfl : i = ws.length := by omega
    refine vc_exit ?_
    refine vc_thenExit ?_
    refine vc_thenExit ?_
    refine vc_inExit ?_
    refine vc_then ?_
    refine vc_seq ?_
    refine vc_region ?_
    refine vp ?_
    refine vc_nil ?_
    refine vc_then ?_
    refine vc_ret ?_
    exact vc_end1 Tryz.results35 rfl _ (ent_pick [0] rfl) ⟨by first | (rw [hno]) | (unfold mayW; rw [hch, List.drop_length, show mayFrom (lastK ws ws.length) [] = true from rfl, Bool.true_and]; simp; omega) | (unfold mayW; rw [hch2, hwr]; rfl) | (unfold mayW; rw [hch2, hls]; simp [lkLt, hlt]), rfl⟩
structure RfH (X : RmX) (K : RfK) (T : List On) (bg : Int) (L : List Int) : Prop where
 ok : X.ok
 ring : K.ring = X.ring
 quota : K.quota = X.quota
 most : K.most = X.most
 m : mpT T = X.M
 g : RgRel X.R L
 bg : X.R.begin = bg
theorem RfH.hq {X : RmX} {K : RfK} {T : List On} {bg : Int} {L : List Int} (H : RfH X K T bg L) : 0 ≤ bg ∧ bg + (L.length : Int) ≤ 1073741824 := by
 have h1 := H.g.seq
 have h2 := H.ok.rg.b0
 have h3 := H.ok.rg.q
 have h4 := H.bg
 omega
theorem RfH.seq {X : RmX} {K : RfK} {T : List On} {bg : Int} {L : List Int} (H : RfH X K T bg L) : bg + (L.length : Int) = X.R.seq := by rw [H.g.seq, H.bg]
theorem RfH.floor {X : RmX} {K : RfK} {T : List On} {bg : Int} {L : List Int} (H : RfH X K T bg L) : max (bg + (L.length : Int) - K.ring + 1) bg = X.R.floor := by
 rw [H.seq, H.ring, ← H.bg, ← H.ok.rs]; rfl
theorem RfH.chain {X : RmX} {K : RfK} {T : List On} {bg : Int} {L : List Int} (H : RfH X K T bg L) (key : ByteArray) : (onT T key).2.2 = chainM X.M key := by
 rw [← H.m]; exact onT_chain (by rw [H.m]; exact H.ok.rise) key
theorem ent_dup {A : HP} {r : List HP} (h : Ent A (sep A A)) : Ent (seps (A :: r)) (seps (A :: A :: r)) := (Ent.sep h Ent.rfl).trans Ent.assoc
theorem rfWith {b : Nat} {K : RfK} {hO : SH} {T : List On} {X : RmX} {R' : RR} {A : HP} {h : SH} {ws : List Wr} (hv : Vis A (Rd eWr h ws)) (H : PutsH X R' ws) (hM : mpT T = X.M) : Does Tryz.prog 118 [.pointer (some ⟨b, 0, none⟩), h.v, .int .i64 R'.seq] (RfL b K hO T ++ [A]) (fun v l => ∃ b' hO' T', v = .pointer (some ⟨b', 0, none⟩) ∧ mpT T' = mPuts X.M R'.seq ws ∧ l = RfL b' K hO' T' ++ RfL b K hO T ++ [A]) := by
 refine spec_of Tryz.func118 rfl Tryz.ntmps118 Tryz.results118 _ (by simp) fun ι F => ?_
 refine vc_see 3 rfl (hv.imp fun w r => r.len) (fun hlen => ?_)
 refine vc_seq ?_
 refine vc_region ?_
 refine vp ?_
 refine vc_nil ?_
 refine vc_then ?_
 refine vc_seq ?_
 refine vc_ent (ent_at [1, 0, 0, 0] rfl (ent_dup RoSl.dup)) ?_
 refine vc_ent (ent_at [3, 0, 0, 0, 0] rfl (ent_dup RoM.dup)) ?_
 refine vc_draw (by kernel_rfl) _ none [0, 0, 0, 0, 0, 0] rfl ?_
 refine tpp 0 ?_
 refine tpp 1 ?_
 refine tp 2 rfl (by exact y_fieldP fl_67_0 0 rfl rfl) ?_
 refine tk 3 rfl (by exact y_loadA 4 rfl (cs := [_, _, _, _]) ag_24 rfl (Pts.visA rfl)) ?_
 refine tpp 4 ?_
 refine tpp 5 ?_
 refine tp 6 rfl (by exact y_fieldP fl_67_1 4 rfl rfl) ?_
 refine tk 7 rfl (by exact y_load1 4 rfl one_64 rfl (Pts.vis rfl)) ?_
 refine tpp 8 ?_
 refine tpp 9 ?_
 refine tp 10 rfl (by exact y_fieldP fl_67_2 5 rfl rfl) ?_
 refine tk 11 rfl (by exact y_load1 4 rfl one_65 rfl (Pts.vis rfl)) ?_
 refine tp 12 rfl (by exact y_build [(0, _), (1, _), (2, _)] [_, _, _, _, _, _] rfl (bu_67_0_1_2 _ _ _ _ _ _ rfl rfl)) ?_
 refine va_ready [13] (by kernel_rfl) rfl ?_
 refine vo_cons rfl (fun hC0 => ?_) ?_
 ·skip
  refine vc_box [_, _, _, _, _, _] rfl rfl rfl (fun b22 => ?_)
  refine vc_nil ?_
  refine vc_then ?_
  refine va_kept hC0 [1, 1, 1, 1, 1, 1] rfl ?_
  clear hC0
  refine tpp 14 ?_
  refine va_done (by kernel_rfl) ?_
  refine vc_then ?_
  refine vc_seq ?_
  refine vc_seq ?_
  refine vc_region ?_
  refine vp ?_
  refine vc_nil ?_
  refine vc_then ?_
  refine vc_block ?_
  refine vc_loop (α := Nat × SH × List On) (fun xq_ => match xq_ with | (i, hO', T') => [(0, .pointer (some ⟨b, 0, none⟩)), (1, h.v), (2, .int .i64 R'.seq), (7, .pointer (some ⟨b22, 0, none⟩)), (8, .int .i64 (i : Int))]) (fun xq_ => match xq_ with | (i, hO', T') => RfL b22 K hO' T' ++ RfL b K hO T ++ [A]) (fun xq_ => match xq_ with | (i, hO', T') => ws.length - i) (fun xq_ => match xq_ with | (i, hO', T') => i ≤ ws.length ∧ mpT T' = mPuts X.M R'.seq (ws.take i)) (0, hO, T) ⟨Nat.zero_le _, by simpa [mPuts] using hM⟩ ⟨rfl, rfl, rfl, rfl, rfl, trivial⟩ (ent_pick [0, 2, 0, 2, 1, 0, 0] rfl) ?_
  rintro ⟨i, hO', T'⟩ ⟨hi, hM2⟩
  show VC _ _ _ _ [(0, .pointer (some ⟨b, 0, none⟩)), (1, h.v), (2, .int .i64 R'.seq), (7, .pointer (some ⟨b22, 0, none⟩)), (8, .int .i64 (i : Int))] (RfL b22 K hO' T' ++ RfL b K hO T ++ [A])
  refine vc_seq ?_
  refine vc_seq ?_
  refine vc_region ?_
  refine vp ?_
  refine vp ?_
  refine vc_y (y_len Tryz.underlying35 rfl (by first | assumption | rfl)) rfl ?_
  refine vp ?_
  refine vc_nil ?_
  refine vc_then ?_
  first | refine vc_condP rfl (fun c26 => ?_) (fun c26 => ?_) | refine vc_condN rfl (fun c26 => ?_) (fun c26 => ?_) | refine vc_cond rfl (fun c26 => ?_) (fun c26 => ?_)
  ·skip
   have hi2 : i < ws.length := by omega
   have hp := (live_puts H i hi).1
   have hwl := H.le
   refine vc_skip ?_
   refine vc_then ?_
   refine vc_seq ?_
   refine vc_block ?_
   refine vc_draw (by kernel_rfl) _ none [6] rfl ?_
   refine tpp 0 ?_
   refine tpp 1 ?_
   refine tpp 2 ?_
   refine tk 3 rfl (by exact y_elem 0 rfl (hv) i rfl hi2 sl_35 rfl rfl) ?_
   refine tp 4 rfl (by exact y_fieldE fl_97_0 0 rfl rfl) ?_
   refine tk 5 rfl (by exact y_load1 0 rfl one_9 rfl (Rd.vis1 (hv) (List.getElem?_eq_getElem (by first | assumption | omega)) rfl)) ?_
   refine tpp 6 ?_
   refine tpp 7 ?_
   refine tpp 8 ?_
   refine tk 9 rfl (by exact y_elem 0 rfl (hv) i rfl hi2 sl_35 rfl rfl) ?_
   refine tp 10 rfl (by exact y_fieldE fl_97_1 1 rfl rfl) ?_
   refine tk 11 rfl (by exact y_load1 0 rfl one_4 rfl (Rd.vis1 (hv) (List.getElem?_eq_getElem (by first | assumption | omega)) rfl)) ?_
   refine tpp 12 ?_
   refine tpp 13 ?_
   refine tk 14 rfl (by exact y_elem 0 rfl (hv) i rfl hi2 sl_35 rfl rfl) ?_
   refine tp 15 rfl (by exact y_fieldE fl_97_2 2 rfl rfl) ?_
   refine tk 16 rfl (by exact y_loadA 0 rfl (cs := [_, _, _]) ag_45 rfl (Rd.visA (hv) (List.getElem?_eq_getElem (by first | assumption | omega)) rfl)) ?_
   refine tp 17 rfl (by exact y_build [(0, _), (1, _), (2, _)] [_, _, _, _, _] rfl (bu_135_0_1_2 _ _ _ _ _ rfl rfl)) ?_
   refine va_ready [18] (by kernel_rfl) rfl ?_
   refine vo_cons rfl (fun hC0 => ?_) ?_
   ·skip
    refine vc_callv ca_155 (us := []) (vs := []) rfl [_, _, _] rfl [0, 0, 0] rfl (rfPut (hp.ok.tok hM2) ws[i].key ⟨R'.seq, ws[i].gone, ws[i].val⟩) rfl ?_
    rintro _ _ ⟨hO2, T2, hT2, rfl⟩
    have hT3 : mpT T2 = mPuts X.M R'.seq (ws.take (i + 1)) := by rw [hT2, hM2, putGo_eq hp.ok.rise, mPuts_succ hi2]
    refine vc_nil ?_
    refine vc_then ?_
    refine va_kept hC0 [6] rfl ?_
    clear hC0
    refine va_done (by kernel_rfl) ?_
    refine vc_inNormal ?_
    refine vc_then ?_
    refine vc_region ?_
    refine vp ?_
    first | refine vc_y (y_arith _ rfl (wrapNadd (by omega))) rfl ?_ | refine vc_y (y_arith _ rfl (wrap64 (by omega) (by omega))) rfl ?_ | refine vp ?_
    refine vp ?_
    refine vc_nil ?_
    refine vc_then ?_
    exact vc_again (x := (i, hO', T')) (i + 1, hO2, T2) ⟨hi2, hT3⟩ (by show ws.length - (i + 1) < ws.length - i; omega) ⟨rfl, rfl, rfl, rfl, rfl, trivial⟩ (ent_pick [0, 0, 0, 0, 0, 0, 0] rfl)
   exact vo_nil
  ·skip
   obtain rfl : i = ws.length := by omega
   rw [List.take_length] at hM2
   have hwl := H.le
   refine vc_exit ?_
   refine vc_thenExit ?_
   refine vc_thenExit ?_
   refine vc_inExit ?_
   refine vc_then ?_
   refine vc_seq ?_
   refine vc_region ?_
   refine vp ?_
   refine vp ?_
   refine vc_nil ?_
   refine vc_then ?_
   refine vc_ret ?_
   exact vc_end1 Tryz.results118 rfl _ (ent_pick [0, 0, 0, 0, 0, 0, 0] rfl) ⟨b22, _, _, rfl, hM2, rfl⟩
 exact vo_nil
theorem rfSpace {b : Nat} {K : RfK} {hO : SH} {T : List On} {bg : Int} {hS : SH} {L : List Int} {X : RmX} (H : RfH X K T bg L) {A : HP} {h : SH} {ws : List Wr} (hv : Vis A (Rd eWr h ws)) (hmay : mayFrom none ws = true) (hbg : X.R.seq - X.R.begin < 900000) (hle : X.M.length + ws.length ≤ 100000) : Does Tryz.prog 116 [.pointer (some ⟨b, 0, none⟩), h.v] (RfL b K hO T ++ [RgP K.bG K.ring bg hS, Sl eU64 hS L, A]) (fun v l => v = .int .i64 (spaceE X ws) ∧ l = RfL b K hO T ++ [RgP K.bG K.ring bg hS, Sl eU64 hS L, A]) := by
 refine spec_of Tryz.func116 rfl Tryz.ntmps116 Tryz.results116 _ (by simp) fun ι F => ?_
 have hsq := H.seq
 have hq := H.hq
 refine vc_seq ?_
 refine vc_region ?_
 refine vp ?_
 refine vc_nil ?_
 refine vc_then ?_
 refine vc_seq ?_
 refine vc_seq ?_
 refine vc_draw (by kernel_rfl) _ none [0, 0, 0, 0, 0, 0] rfl ?_
 refine tpp 0 ?_
 refine tpp 2 ?_
 refine tpp 3 ?_
 refine tp 4 rfl (by exact y_fieldP fl_67_0 0 rfl rfl) ?_
 refine tp 5 rfl (by exact y_fieldP fl_24_3 3 rfl rfl) ?_
 refine tk 6 rfl (by exact y_load1 0 rfl one_3 rfl (Pts.vis rfl)) ?_
 refine va_ready [1] (by kernel_rfl) rfl ?_
 refine vo_cons rfl (fun hC0 => ?_) ?_
 ·skip
  refine vc_callv ca_37 (us := []) (vs := []) rfl [_] rfl [0, 2, 2] rfl (rfSeq hq) rfl ?_
  rintro _ _ ⟨rfl, rfl⟩
  refine vc_nil ?_
  refine vc_then ?_
  refine va_kept hC0 [0, 2, 2, 0, 0, 0] rfl ?_
  clear hC0
  refine tpp 7 ?_
  refine va_done (by kernel_rfl) ?_
  refine vc_then ?_
  first | refine vc_condP rfl (fun c12 => ?_) (fun c12 => ?_) | refine vc_condN rfl (fun c12 => ?_) (fun c12 => ?_) | refine vc_cond rfl (fun c12 => ?_) (fun c12 => ?_)
  ·skip
   have hm : X.most ≤ X.R.seq := by rw [← H.most, ← hsq]; exact c12
   refine vc_seq ?_
   refine vc_region ?_
   refine vp ?_
   refine vc_nil ?_
   refine vc_then ?_
   refine vc_ret ?_
   refine vc_thenRet ?_
   exact vc_end1 Tryz.results116 rfl _ (ent_pick [0, 2, 2, 0, 0, 0] rfl) ⟨by unfold spaceE; simp [*], rfl⟩
  ·skip
   have hm : ¬ X.most ≤ X.R.seq := by rw [← H.most, ← hsq]; exact c12
   have hmo := H.ok.mo
   have hrg := H.ok.rg
   have hP : PutsH X ⟨X.R.size, X.R.begin, X.R.seq + 1, X.R.stamps⟩ ws := ⟨H.ok, ⟨hrg.s1, hrg.s2, hrg.b0, by have := hrg.b1; simp only; omega, by simp only; omega, hrg.len, by have := hrg.len2; simp only; omega, hrg.rise⟩, rfl, rfl, rfl, by simp only; omega, by simp only; omega, hmay, hle⟩
   have hlv := (live_puts hP ws.length (Nat.le_refl _))
   rw [List.take_length] at hlv
   refine vc_skip ?_
   refine vc_then ?_
   refine vc_seq ?_
   refine vc_seq ?_
   refine vc_draw (by kernel_rfl) _ none [0] rfl ?_
   refine tpp 0 ?_
   refine tpp 1 ?_
   refine tpp 2 ?_
   refine tpp 7 ?_
   refine tpp 8 ?_
   refine tp 9 rfl (by exact y_fieldP fl_67_0 0 rfl rfl) ?_
   refine tp 10 rfl (by exact y_fieldP fl_24_2 2 rfl rfl) ?_
   refine tk 11 rfl (by exact y_load1 0 rfl one_3 rfl (Pts.vis rfl)) ?_
   refine va_ready [3] (by kernel_rfl) rfl ?_
   refine vo_cons rfl (fun hC0 => ?_) ?_
   ·skip
    refine vc_callv ca_37 (us := []) (vs := []) rfl [_] rfl [0, 0, 0] rfl (rfSeq hq) rfl ?_
    rintro _ _ ⟨rfl, rfl⟩
    refine vc_nil ?_
    refine vc_then ?_
    refine va_kept hC0 [0] rfl ?_
    clear hC0
    refine tp 4 rfl (by exact y_arith (X.R.seq + 1) rfl (by rw [hsq]; rw [wrap64 (by omega) (by omega)])) ?_
    refine va_ready [5] (by kernel_rfl) rfl ?_
    refine vo_cons rfl (fun hC0 => ?_) ?_
    ·skip
     refine vc_callv ca_118 (us := []) (vs := []) rfl [_, _, _] rfl [0, 2, 2, 2] rfl (rfWith (R' := ⟨X.R.size, X.R.begin, X.R.seq + 1, X.R.stamps⟩) hv hP H.m) rfl ?_
     rintro _ _ ⟨b2, hO2, T2, rfl, hT2, rfl⟩
     refine vc_nil ?_
     refine vc_then ?_
     refine va_kept hC0 [3] rfl ?_
     clear hC0
     refine va_ready [6] (by kernel_rfl) rfl ?_
     refine vo_cons rfl (fun hC0 => ?_) ?_
     ·skip
      refine vc_callv ca_89 (us := []) (vs := []) rfl [_] rfl [0, 0, 0] rfl (rfLive (b := b2) ((by have := hlv.1.ok.tok (T := T2); rw [List.take_length] at this; exact this hT2))) rfl ?_
      rintro _ _ ⟨rfl, rfl⟩
      refine vc_nil ?_
      refine vc_then ?_
      refine va_kept hC0 [3] rfl ?_
      clear hC0
      refine tpp 12 ?_
      refine va_done (by kernel_rfl) ?_
      refine vc_then ?_
      first | refine vc_condP rfl (fun c25 => ?_) (fun c25 => ?_) | refine vc_condN rfl (fun c25 => ?_) (fun c25 => ?_) | refine vc_cond rfl (fun c25 => ?_) (fun c25 => ?_)
      ·skip
       have hl2 : X.quota < liveM X.M + addW X.M ws := by rw [← hlv.2, ← hT2, ← H.quota]; exact c25
       refine vc_seq ?_
       refine vc_region ?_
       refine vp ?_
       refine vc_nil ?_
       refine vc_then ?_
       refine vc_ret ?_
       refine vc_thenRet ?_
       exact vc_end1 Tryz.results116 rfl _ (ent_pick [3, 3, 3, 4, 4, 3] rfl) ⟨by unfold spaceE; simp [*], rfl⟩
      ·skip
       have hl2 : ¬ X.quota < liveM X.M + addW X.M ws := by rw [← hlv.2, ← hT2, ← H.quota]; exact c25
       refine vc_skip ?_
       refine vc_then ?_
       refine vc_seq ?_
       refine vc_region ?_
       refine vp ?_
       refine vc_nil ?_
       refine vc_then ?_
       refine vc_ret ?_
       exact vc_end1 Tryz.results116 rfl _ (ent_pick [3, 3, 3, 4, 4, 3] rfl) ⟨by unfold spaceE; simp [*], rfl⟩
     exact vo_nil
    exact vo_nil
   exact vo_nil
 exact vo_nil
end Go.Proofs.YtcpbibdbahfgaaaGreat
