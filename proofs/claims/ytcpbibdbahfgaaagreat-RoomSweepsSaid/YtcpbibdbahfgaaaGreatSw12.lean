/-
 The reference of rooms: what may be, what is committed.
-/
import Derived.Test.YtcpbibdbahfgaaaGreatSw11
import Derived.Test.YtcpbibdbahfgaaaGreatSw9
import Derived.Test.YtcpbibdbahfgaaaGreatSw10
set_option linter.unusedVariables false
set_option linter.unusedSimpArgs false
set_option autoImplicit false
set_option maxHeartbeats 4000000
namespace Go.Proofs.YtcpbibdbahfgaaaGreat
open Go.Eng
namespace FRef6
theorem ca_35 : Callable Tryz.prog 35 := ⟨_, _, Tryz.func35, rfl, rfl⟩
theorem ca_90 : Callable Tryz.prog 90 := ⟨_, _, Tryz.func90, rfl, rfl⟩
theorem ca_37 : Callable Tryz.prog 37 := ⟨_, _, Tryz.func37, rfl, rfl⟩
theorem sl_35 : TySl Tryz.prog 35 97 5 := ⟨Tryz.underlying35, by kernel_rfl⟩
theorem fl_97_0 : Fld Tryz.prog 97 0 0 := ⟨_, _, 0, Tryz.underlying97, rfl, rfl, by kernel_rfl⟩
theorem one_9 : TyOne Tryz.prog 9 := ⟨⟨_, Tryz.underlying9, rfl⟩, by kernel_rfl⟩
theorem ca_97 : Callable Tryz.prog 97 := ⟨_, _, Tryz.func97, rfl, rfl⟩
theorem sl_138 : TySl Tryz.prog 138 135 5 := ⟨Tryz.underlying138, by kernel_rfl⟩
theorem fl_135_0 : Fld Tryz.prog 135 0 0 := ⟨_, _, 0, Tryz.underlying135, rfl, rfl, by kernel_rfl⟩
theorem one_3 : TyOne Tryz.prog 3 := ⟨⟨_, Tryz.underlying3, rfl⟩, by kernel_rfl⟩
theorem ca_116 : Callable Tryz.prog 116 := ⟨_, _, Tryz.func116, rfl, rfl⟩
theorem fl_67_1 : Fld Tryz.prog 67 1 4 := ⟨_, _, 0, Tryz.underlying67, rfl, rfl, by kernel_rfl⟩
theorem one_64 : TyOne Tryz.prog 64 := ⟨⟨_, Tryz.underlying64, rfl⟩, by kernel_rfl⟩
theorem ca_117 : Callable Tryz.prog 117 := ⟨_, _, Tryz.func117, rfl, rfl⟩
theorem ca_118 : Callable Tryz.prog 118 := ⟨_, _, Tryz.func118, rfl, rfl⟩
theorem fl_67_2 : Fld Tryz.prog 67 2 5 := ⟨_, _, 0, Tryz.underlying67, rfl, rfl, by kernel_rfl⟩
theorem one_65 : TyOne Tryz.prog 65 := ⟨⟨_, Tryz.underlying65, rfl⟩, by kernel_rfl⟩
theorem sz_65 : (Tryz.prog.info? 65).map (·.size) = some 1 := by kernel_rfl
end FRef6
open FRef6
theorem push_LR {X : RmX} {K : RfK} {T : List On} {bg : Int} {L : List Int} (H : RfH X K T bg L) (s : Int) : (pushL bg L s).1 = (pushR X.R s).1 ∧ (pushL bg L s).2.1 = (pushR X.R s).2.1 ∧ RgRel (pushR X.R s).2.2 (pushL bg L s).2.2 := by
 have hl : lastS X.R.stamps = lastS L := by
  rw [H.g.st]
  by_cases h0 : L.length = 0
  ·rw [List.length_eq_zero_iff.1 h0]; simp
  ·exact lastS_drop (by have := H.ok.rg.s1; omega)
 have hs := H.seq
 by_cases h1 : s ≤ lastS L
 ·have e1 : pushL bg L s = (0, 1, L) := if_pos h1
  have e2 : pushR X.R s = (0, 1, X.R) := by unfold pushR; rw [hl, if_pos h1]
  rw [e1, e2]; exact ⟨rfl, rfl, H.g⟩
 ·by_cases h2 : 1073741824 ≤ X.R.seq
  ·have e1 : pushL bg L s = (0, 17, L) := by unfold pushL; rw [hs, if_neg h1, if_pos h2]
   have e2 : pushR X.R s = (0, 17, X.R) := by unfold pushR; rw [hl, if_neg h1, if_pos h2]
   rw [e1, e2]; exact ⟨rfl, rfl, H.g⟩
  ·have e1 : pushL bg L s = (X.R.seq + 1, 0, L ++ [s]) := by unfold pushL; rw [hs, if_neg h1, if_neg h2]
   have e3 := push_rel H.ok.rg H.g h1 h2
   have e2 : pushR X.R s = (X.R.seq + 1, 0, (pushR X.R s).2.2) := by unfold pushR; rw [hl, if_neg h1, if_neg h2]
   rw [e1]
   refine ⟨?_, ?_, e3⟩
   ·rw [e2]
   ·rw [e2]
theorem rfCheck {b : Nat} {K : RfK} {hO : SH} {T : List On} {bg : Int} {hS : SH} {L : List Int} {X : RmX} (H : RfH X K T bg L) {A : HP} {h : SH} {ws : List Wr} (hv : Vis A (Rd eWr h ws)) (hb : ws.length ≤ 1000000) (hbits : ∀ w ∈ ws, 0 ≤ w.val.bits ∧ w.val.bits ≤ 18446744073709551615) (hbg : X.R.seq - X.R.begin < 900000) (hle : X.M.length + ws.length ≤ 100000 ∨ mayW ws = false) (seq : Int) : Does Tryz.prog 70 [.pointer (some ⟨b, 0, none⟩), h.v, .int .i64 seq] (RfL b K hO T ++ [RgP K.bG K.ring bg hS, Sl eU64 hS L, A]) (fun v l => v = .int .i64 (checkE X ws seq) ∧ l = RfL b K hO T ++ [RgP K.bG K.ring bg hS, Sl eU64 hS L, A]) := by
 refine spec_of Tryz.func70 rfl Tryz.ntmps70 Tryz.results70 _ (by simp) fun ι F => ?_
 have hsq := H.seq
 have hq := H.hq
 have hfl := H.floor
 have htn := (H.ok.tok H.m).n
 refine vc_see 5 rfl (hv.imp fun w r => r.len) (fun hlen => ?_)
 refine vc_seq ?_
 refine vc_region ?_
 refine vp ?_
 refine vc_nil ?_
 refine vc_then ?_
 refine vc_seq ?_
 refine vc_seq ?_
 refine vc_region ?_
 refine vp ?_
 refine vc_callv ca_35 (us := []) (vs := []) rfl [_] rfl [5] rfl (refMay_spec hv hb hbits) rfl ?_
 rintro _ _ ⟨rfl, rfl⟩
 refine vp ?_
 refine vc_nil ?_
 refine vc_then ?_
 first | refine vc_condP rfl (fun c11 => ?_) (fun c11 => ?_) | refine vc_condN rfl (fun c11 => ?_) (fun c11 => ?_) | refine vc_cond rfl (fun c11 => ?_) (fun c11 => ?_)
 ·skip
  have hmay : mayW ws = false := notT c11
  refine vc_seq ?_
  refine vc_region ?_
  refine vp ?_
  refine vc_nil ?_
  refine vc_then ?_
  refine vc_ret ?_
  refine vc_thenRet ?_
  exact vc_end1 Tryz.results70 rfl _ (ent_pick [1, 1, 1, 1, 1, 0] rfl) ⟨by first | (simp only [checkE, hmay, hwi, hcf, conflW, if_true]; rfl) | (simp only [checkE, hmay, hwi, hc2, hvl, decide_eq_true c48, Bool.true_or, if_true]) | (simp only [checkE, hmay, hwi]; rfl) | (simp only [checkE, hmay]; rfl), rfl⟩
 ·skip
  have hmay : mayW ws = true := notF c11
  have hle2 := hle.resolve_right (by rw [hmay]; simp)
  have hmf : mayFrom none ws = true := by simp only [mayW, Bool.and_eq_true] at hmay; exact hmay.1
  refine vc_skip ?_
  refine vc_then ?_
  refine vc_seq ?_
  refine vc_seq ?_
  refine vc_region ?_
  refine vp ?_
  refine vp ?_
  refine vc_callv ca_90 (us := []) (vs := []) rfl [_] rfl [1, 3, 3] rfl (rfFloor hq (by rw [H.ring]; exact H.ok.r1)) rfl ?_
  rintro _ _ ⟨rfl, rfl⟩
  refine vp ?_
  refine vp ?_
  first | refine vc_splitP 16 rfl (fun c16 => ?_) (fun c16 => ?_) | refine vc_splitN 16 rfl (fun c16 => ?_) (fun c16 => ?_) | refine vc_split 16 rfl (fun c16 => ?_) (fun c16 => ?_)
  ·skip
   have hwi : (decide (X.R.floor ≤ seq) && decide (seq ≤ X.R.seq)) = false := by rw [← hfl, ← hsq]; simp; omega
   refine vc_guardF 16 rfl rfl rfl rfl ?_
   refine vc_guardF 16 rfl rfl rfl rfl ?_
   refine vc_guardF 16 rfl rfl rfl rfl ?_
   refine vc_guardF 16 rfl rfl rfl rfl ?_
   refine vp ?_
   refine vc_nil ?_
   refine vc_then ?_
   refine vc_condT rfl ?_
   refine vc_seq ?_
   refine vc_region ?_
   refine vp ?_
   refine vc_nil ?_
   refine vc_then ?_
   refine vc_ret ?_
   refine vc_thenRet ?_
   exact vc_end1 Tryz.results70 rfl _ (ent_pick [0, 3, 3, 0, 0, 0] rfl) ⟨by first | (simp only [checkE, hmay, hwi, hcf, conflW, if_true]; rfl) | (simp only [checkE, hmay, hwi, hc2, hvl, decide_eq_true c48, Bool.true_or, if_true]) | (simp only [checkE, hmay, hwi]; rfl) | (simp only [checkE, hmay]; rfl), rfl⟩
  ·skip
   refine vc_guardT 16 rfl rfl ?_
   refine vp ?_
   refine vc_guardT 16 rfl rfl ?_
   refine vp ?_
   refine vc_guardT 16 rfl rfl ?_
   refine vc_callv ca_37 (us := []) (vs := []) rfl [_] rfl [0, 0, 0] rfl (rfSeq hq) rfl ?_
   rintro _ _ ⟨rfl, rfl⟩
   refine vc_guardT 16 rfl rfl ?_
   refine vp ?_
   refine vp ?_
   refine vc_nil ?_
   refine vc_then ?_
   first | refine vc_condP rfl (fun c21 => ?_) (fun c21 => ?_) | refine vc_condN rfl (fun c21 => ?_) (fun c21 => ?_) | refine vc_cond rfl (fun c21 => ?_) (fun c21 => ?_)
   ·skip
    have hwi : (decide (X.R.floor ≤ seq) && decide (seq ≤ X.R.seq)) = false := by rw [← hfl, ← hsq]; simp; omega
    refine vc_seq ?_
    refine vc_region ?_
    refine vp ?_
    refine vc_nil ?_
    refine vc_then ?_
    refine vc_ret ?_
    refine vc_thenRet ?_
    exact vc_end1 Tryz.results70 rfl _ (ent_pick [0, 3, 3, 0, 0, 0] rfl) ⟨by first | (simp only [checkE, hmay, hwi, hcf, conflW, if_true]; rfl) | (simp only [checkE, hmay, hwi, hc2, hvl, decide_eq_true c48, Bool.true_or, if_true]) | (simp only [checkE, hmay, hwi]; rfl) | (simp only [checkE, hmay]; rfl), rfl⟩
   ·skip
    have hwi : (decide (X.R.floor ≤ seq) && decide (seq ≤ X.R.seq)) = true := by rw [← hfl, ← hsq]; simp; omega
    refine vc_skip ?_
    refine vc_then ?_
    refine vc_seq ?_
    refine vc_seq ?_
    refine vc_region ?_
    refine vp ?_
    refine vc_nil ?_
    refine vc_then ?_
    refine vc_block ?_
    refine vc_loop (α := Nat) (fun xq_ => match xq_ with | i => [(0, .pointer (some ⟨b, 0, none⟩)), (1, h.v), (2, .int .i64 seq), (7, .int .i64 (i : Int))]) (fun xq_ => match xq_ with | i => RfL b K hO T ++ [RgP K.bG K.ring bg hS, Sl eU64 hS L, A]) (fun xq_ => match xq_ with | i => ws.length - i) (fun xq_ => match xq_ with | i => i ≤ ws.length ∧ conflW X.M seq ws = conflW X.M seq (ws.drop i)) 0 ⟨Nat.zero_le _, rfl⟩ ⟨rfl, rfl, rfl, rfl, trivial⟩ (ent_pick [0, 3, 3, 0, 0, 0] rfl) ?_
    rintro i ⟨hi, hcf⟩
    show VC _ _ _ _ [(0, .pointer (some ⟨b, 0, none⟩)), (1, h.v), (2, .int .i64 seq), (7, .int .i64 (i : Int))] (RfL b K hO T ++ [RgP K.bG K.ring bg hS, Sl eU64 hS L, A])
    refine vc_seq ?_
    refine vc_seq ?_
    refine vc_region ?_
    refine vp ?_
    refine vp ?_
    refine vc_y (y_len Tryz.underlying35 rfl (by first | assumption | rfl)) rfl ?_
    refine vp ?_
    refine vc_nil ?_
    refine vc_then ?_
    first | refine vc_condP rfl (fun c25 => ?_) (fun c25 => ?_) | refine vc_condN rfl (fun c25 => ?_) (fun c25 => ?_) | refine vc_cond rfl (fun c25 => ?_) (fun c25 => ?_)
    ·skip
     have hi2 : i < ws.length := by omega
     obtain ⟨c, hc⟩ : ∃ c, c = (onT T ws[i].key).2.2 := ⟨_, rfl⟩
     have hvo := onT_vis T ws[i].key
     rw [← hc] at hvo
     have hcm : chainM X.M ws[i].key = c := by rw [hc]; exact (H.chain _).symm
     have hch := H.ok.chain ws[i].key
     rw [hcm] at hch
     have hc2 : conflW X.M seq ws = ((match verLast c with | some v => decide (seq < v.seq) | none => false) || conflW X.M seq (ws.drop (i + 1))) := by rw [hcf, List.drop_eq_getElem_cons hi2, ← hcm]; rfl
     refine vc_skip ?_
     refine vc_then ?_
     refine vc_seq ?_
     refine vc_block ?_
     refine vc_seq ?_
     refine vc_region ?_
     iterate 3 refine vp ?_
     refine vc_y (y_elem 5 rfl (hv) i rfl hi2 sl_35 rfl rfl) rfl ?_
     refine vc_y (y_fieldE fl_97_0 0 rfl rfl) rfl ?_
     refine vc_y (y_load1 5 rfl one_9 rfl (Rd.vis1 (hv) (List.getElem?_eq_getElem (by first | assumption | omega)) rfl)) rfl ?_
     refine vc_callv ca_97 (us := []) (vs := []) rfl [_, _] rfl [0, 0, 0] rfl (rfChain htn ws[i].key) rfl ?_
     rintro _ _ ⟨rfl, rfl⟩
     refine vp ?_
     refine vc_nil ?_
     refine vc_then ?_
     refine vc_seq ?_
     refine vc_region ?_
     refine vc_see 2 rfl (hvo.imp fun w r => r.len) (fun hlc => ?_)
     refine vp ?_
     refine vc_y (y_len Tryz.underlying138 rfl (by first | assumption | rfl)) rfl ?_
     refine vp ?_
     refine vp ?_
     first | refine vc_splitP 38 rfl (fun c38 => ?_) (fun c38 => ?_) | refine vc_splitN 38 rfl (fun c38 => ?_) (fun c38 => ?_) | refine vc_split 38 rfl (fun c38 => ?_) (fun c38 => ?_)
     ·skip
      have hvl : verLast c = some (c[c.length - 1]'(by omega)) := by simp only [verLast, hch.1, if_true]; exact List.getElem?_eq_getElem (by omega)
      refine vc_guardT 38 rfl rfl ?_
      refine vp ?_
      refine vc_guardT 38 rfl rfl ?_
      refine vp ?_
      refine vc_guardT 38 rfl rfl ?_
      refine vc_y (y_len Tryz.underlying138 rfl (by first | assumption | rfl)) rfl ?_
      refine vc_guardT 38 rfl rfl ?_
      refine vc_y (y_arith ((c.length - 1 : Nat) : Int) rfl (wrapNsub (by omega))) rfl ?_
      refine vc_guardT 38 rfl rfl ?_
      refine vc_y (y_elem 2 rfl (hvo) (c.length - 1) rfl (by omega) sl_138 rfl rfl) rfl ?_
      refine vc_guardT 38 rfl rfl ?_
      refine vc_y (y_fieldE fl_135_0 0 rfl rfl) rfl ?_
      refine vc_guardT 38 rfl rfl ?_
      refine vc_y (y_load1 2 rfl one_3 rfl (Rd.vis1 (hvo) (List.getElem?_eq_getElem (by first | assumption | omega)) rfl)) rfl ?_
      refine vc_guardT 38 rfl rfl ?_
      refine vp ?_
      refine vc_guardT 38 rfl rfl ?_
      refine vp ?_
      refine vp ?_
      refine vc_nil ?_
      refine vc_then ?_
      first | refine vc_condP rfl (fun c48 => ?_) (fun c48 => ?_) | refine vc_condN rfl (fun c48 => ?_) (fun c48 => ?_) | refine vc_cond rfl (fun c48 => ?_) (fun c48 => ?_)
      ·skip
       refine vc_seq ?_
       refine vc_region ?_
       refine vp ?_
       refine vc_nil ?_
       refine vc_then ?_
       refine vc_ret ?_
       refine vc_inRet ?_
       refine vc_thenRet ?_
       refine vc_thenRet ?_
       refine vc_inRet ?_
       refine vc_thenRet ?_
       exact vc_end1 Tryz.results70 rfl _ (ent_pick [0, 0, 0, 0, 0, 0] rfl) ⟨by first | (simp only [checkE, hmay, hwi, hcf, conflW, if_true]; rfl) | (simp only [checkE, hmay, hwi, hc2, hvl, decide_eq_true c48, Bool.true_or, if_true]) | (simp only [checkE, hmay, hwi]; rfl) | (simp only [checkE, hmay]; rfl), rfl⟩
      ·skip
       refine vc_skip ?_
       refine vc_inNormal ?_
       refine vc_then ?_
       refine vc_region ?_
       refine vp ?_
       first | refine vc_y (y_arith _ rfl (wrapNadd (by omega))) rfl ?_ | refine vc_y (y_arith _ rfl (wrap64 (by omega) (by omega))) rfl ?_ | refine vp ?_
       refine vp ?_
       refine vc_nil ?_
       refine vc_then ?_
       exact vc_again (x := i) (i + 1) ⟨hi2, by rw [hc2, hvl]; first | rfl | (simp only [decide_eq_false c48, Bool.false_or])⟩ (by show ws.length - (i + 1) < ws.length - i; omega) ⟨rfl, rfl, rfl, rfl, trivial⟩ (ent_pick [0, 0, 0, 0, 0, 0] rfl)
     ·skip
      have hvl : verLast c = none := by rw [show c = [] from List.length_eq_zero_iff.1 (by omega)]; rfl
      refine vc_guardF 38 rfl rfl rfl rfl ?_
      refine vc_guardF 38 rfl rfl rfl rfl ?_
      refine vc_guardF 38 rfl rfl rfl rfl ?_
      refine vc_guardF 38 rfl rfl rfl rfl ?_
      refine vc_guardF 38 rfl rfl rfl rfl ?_
      refine vc_guardF 38 rfl rfl rfl rfl ?_
      refine vc_guardF 38 rfl rfl rfl rfl ?_
      refine vc_guardF 38 rfl rfl rfl rfl ?_
      refine vc_guardF 38 rfl rfl rfl rfl ?_
      refine vp ?_
      refine vc_nil ?_
      refine vc_then ?_
      refine vc_condF rfl ?_
      refine vc_skip ?_
      refine vc_inNormal ?_
      refine vc_then ?_
      refine vc_region ?_
      refine vp ?_
      first | refine vc_y (y_arith _ rfl (wrapNadd (by omega))) rfl ?_ | refine vc_y (y_arith _ rfl (wrap64 (by omega) (by omega))) rfl ?_ | refine vp ?_
      refine vp ?_
      refine vc_nil ?_
      refine vc_then ?_
      exact vc_again (x := i) (i + 1) ⟨hi2, by rw [hc2, hvl]; first | rfl | (simp only [decide_eq_false c48, Bool.false_or])⟩ (by show ws.length - (i + 1) < ws.length - i; omega) ⟨rfl, rfl, rfl, rfl, trivial⟩ (ent_pick [0, 0, 0, 0, 0, 0] rfl)
    ·skip
     obtain rfl : i = ws.length := by omega
     rw [List.drop_length] at hcf
     refine vc_exit ?_
     refine vc_thenExit ?_
     refine vc_thenExit ?_
     refine vc_inExit ?_
     refine vc_then ?_
     refine vc_seq ?_
     refine vc_region ?_
     refine vp ?_
     refine vp ?_
     refine vc_callv ca_116 (us := []) (vs := []) rfl [_, _] rfl [0, 0, 0, 0, 0, 0] rfl (rfSpace H hv hmf hbg hle2) rfl ?_
     rintro _ _ ⟨rfl, rfl⟩
     refine vp ?_
     refine vc_nil ?_
     refine vc_then ?_
     refine vc_ret ?_
     exact vc_end1 Tryz.results70 rfl _ (ent_pick [0, 0, 0, 0, 0, 0] rfl) ⟨by first | (simp only [checkE, hmay, hwi, hcf, conflW, if_true]; rfl) | (simp only [checkE, hmay, hwi, hc2, hvl, decide_eq_true c48, Bool.true_or, if_true]) | (simp only [checkE, hmay, hwi]; rfl) | (simp only [checkE, hmay]; rfl), rfl⟩
theorem rfCommit {b : Nat} {K : RfK} {hO : SH} {T : List On} {bg : Int} {hS : SH} {L : List Int} {X : RmX} (H : RfH X K T bg L) {A : HP} {h : SH} {ws : List Wr} (hv : Vis A (Rd eWr h ws)) (hb : ws.length ≤ 1000000) (hbits : ∀ w ∈ ws, 0 ≤ w.val.bits ∧ w.val.bits ≤ 18446744073709551615) (hbg : X.R.seq - X.R.begin < 900000) (hle : X.M.length + ws.length ≤ 100000 ∨ mayW ws = false) (stamp : Int) : Does Tryz.prog 68 [.pointer (some ⟨b, 0, none⟩), h.v, .int .u64 stamp] (RfL b K hO T ++ [RgP K.bG K.ring bg hS, Sl eU64 hS L, A]) (fun v l => v = .tuple #[.int .i64 (commitX X ws stamp).1, .int .i64 (commitX X ws stamp).2.1] ∧ ∃ hO' T' hS' L', RfH (commitX X ws stamp).2.2 K T' bg L' ∧ l = RfL b K hO' T' ++ [RgP K.bG K.ring bg hS', Sl eU64 hS' L', A]) := by
 refine spec_of Tryz.func68 rfl Tryz.ntmps68 Tryz.results68 _ (by simp) fun ι F => ?_
 have hsq := H.seq
 have hq := H.hq
 refine vc_seq ?_
 refine vc_region ?_
 refine vp ?_
 refine vp ?_
 refine vc_nil ?_
 refine vc_then ?_
 refine vc_seq ?_
 refine vc_seq ?_
 refine vc_region ?_
 refine vp ?_
 refine vc_callv ca_35 (us := []) (vs := []) rfl [_] rfl [5] rfl (refMay_spec hv hb hbits) rfl ?_
 rintro _ _ ⟨rfl, rfl⟩
 refine vp ?_
 refine vc_nil ?_
 refine vc_then ?_
 first | refine vc_condP rfl (fun c12 => ?_) (fun c12 => ?_) | refine vc_condN rfl (fun c12 => ?_) (fun c12 => ?_) | refine vc_cond rfl (fun c12 => ?_) (fun c12 => ?_)
 ·skip
  have hmay : mayW ws = false := notT c12
  have hco : commitX X ws stamp = (0, 1, X) := by simp [commitX, hmay]
  rw [hco]
  refine vc_seq ?_
  refine vc_region ?_
  refine vp ?_
  refine vp ?_
  refine vc_nil ?_
  refine vc_then ?_
  refine vc_ret ?_
  refine vc_thenRet ?_
  exact vc_end2 Tryz.results68 rfl rfl _ (ent_pick [1, 1, 1, 1, 1, 0] rfl) ⟨rfl, _, _, _, _, H, rfl⟩
 ·skip
  have hmay : mayW ws = true := notF c12
  have hle2 := hle.resolve_right (by rw [hmay]; simp)
  have hmf : mayFrom none ws = true := by simp only [mayW, Bool.and_eq_true] at hmay; exact hmay.1
  refine vc_skip ?_
  refine vc_then ?_
  refine vc_seq ?_
  refine vc_region ?_
  refine vp ?_
  refine vp ?_
  refine vc_callv ca_116 (us := []) (vs := []) rfl [_, _] rfl [1, 1, 1, 1, 1, 0] rfl (rfSpace H hv hmf hbg hle2) rfl ?_
  rintro _ _ ⟨rfl, rfl⟩
  refine vp ?_
  refine vc_nil ?_
  refine vc_then ?_
  refine vc_seq ?_
  refine vc_seq ?_
  refine vc_region ?_
  refine vp ?_
  refine vp ?_
  refine vc_nil ?_
  refine vc_then ?_
  first | refine vc_condP rfl (fun c17 => ?_) (fun c17 => ?_) | refine vc_condN rfl (fun c17 => ?_) (fun c17 => ?_) | refine vc_cond rfl (fun c17 => ?_) (fun c17 => ?_)
  ·skip
   have hsp : spaceE X ws ≠ 0 := by first | exact c17 | simpa using c17
   have hco : commitX X ws stamp = (0, spaceE X ws, X) := by simp [commitX, hmay, hsp]
   rw [hco]
   refine vc_seq ?_
   refine vc_region ?_
   iterate 3 refine vp ?_
   refine vc_nil ?_
   refine vc_then ?_
   refine vc_ret ?_
   refine vc_thenRet ?_
   exact vc_end2 Tryz.results68 rfl rfl _ (ent_pick [0, 0, 0, 0, 0, 0] rfl) ⟨rfl, _, _, _, _, H, rfl⟩
  ·skip
   have hsp : spaceE X ws = 0 := by first | exact c17 | simpa using c17
   refine vc_skip ?_
   refine vc_then ?_
   refine vc_seq ?_
   refine vc_region ?_
   refine vp ?_
   refine vp ?_
   refine vc_y (y_fieldP fl_67_1 4 rfl rfl) rfl ?_
   refine vc_y (y_load1 0 rfl one_64 rfl (Pts.vis rfl)) rfl ?_
   refine vp ?_
   refine vc_callv ca_117 (us := []) (vs := []) rfl [_, _] rfl [3, 3] rfl (rgPush hq stamp) rfl ?_
   rintro _ _ ⟨rfl, hS2, rfl⟩
   have hLR := push_LR H stamp
   generalize hp : pushL bg L stamp = pL at hLR ⊢
   obtain ⟨q1, q2, L2⟩ := pL
   simp only at hLR
   obtain ⟨rfl, rfl, hg⟩ := hLR
   iterate 5 refine vp ?_
   refine vc_nil ?_
   refine vc_then ?_
   refine vc_seq ?_
   refine vc_seq ?_
   refine vc_region ?_
   refine vp ?_
   refine vp ?_
   refine vc_nil ?_
   refine vc_then ?_
   first | refine vc_condP rfl (fun c29 => ?_) (fun c29 => ?_) | refine vc_condN rfl (fun c29 => ?_) (fun c29 => ?_) | refine vc_cond rfl (fun c29 => ?_) (fun c29 => ?_)
   ·skip
    have hpe : (pushR X.R stamp).2.1 ≠ 0 := by first | exact c29 | simpa using c29
    have hco : commitX X ws stamp = (0, (pushR X.R stamp).2.1, X) := by simp [commitX, hmay, hsp, hpe]
    have hpR : (pushR X.R stamp).2.2 = X.R := by
     have h0 := hpe
     unfold pushR at h0 ⊢
     split
     ·rfl
     ·split
      ·rfl
      ·rename_i h1 h2; exact absurd (by rw [if_neg h1, if_neg h2]) h0
    rw [hpR] at hg
    rw [hco]
    refine vc_seq ?_
    refine vc_region ?_
    iterate 3 refine vp ?_
    refine vc_nil ?_
    refine vc_then ?_
    refine vc_ret ?_
    refine vc_thenRet ?_
    exact vc_end2 Tryz.results68 rfl rfl _ (ent_pick [2, 2, 2, 0, 0, 0] rfl) ⟨rfl, _, _, _, _, ⟨H.ok, H.ring, H.quota, H.most, H.m, hg, H.bg⟩, rfl⟩
   ·skip
    have hpe : (pushR X.R stamp).2.1 = 0 := by first | exact c29 | simpa using c29
    obtain ⟨R', hR'⟩ : ∃ R', R' = (pushR X.R stamp).2.2 := ⟨_, rfl⟩
    have hps : R'.seq = X.R.seq + 1 ∧ R'.begin = X.R.begin ∧ R'.size = X.R.size ∧ (pushR X.R stamp).1 = R'.seq := by
     rw [hR']
     unfold pushR at hpe ⊢
     split
     ·rename_i h1; rw [if_pos h1] at hpe; cases hpe
     ·split
      ·rename_i h1 h2; rw [if_neg h1, if_pos h2] at hpe; cases hpe
      ·exact ⟨rfl, rfl, rfl, rfl⟩
    have hsm : X.R.seq < X.most := by
     unfold spaceE at hsp
     split at hsp
     ·cases hsp
     ·omega
    have hH : PutsH X R' ws := ⟨H.ok, hR' ▸ push_ok H.ok.rg stamp, hps.1, hps.2.1, hps.2.2.1, by omega, by omega, hmf, hle2⟩
    have hco : commitX X ws stamp = (R'.seq, 0, ⟨X.label, X.ring, X.quota, X.most, R', mPuts X.M R'.seq ws⟩) := by simp only [commitX, hmay, hsp, hpe, if_true]; rw [hps.2.2.2, ← hR']
    rw [hco]
    have hok := (live_puts hH ws.length (Nat.le_refl _)).1.ok
    rw [List.take_length] at hok
    rw [← hR'] at hg
    rw [hps.2.2.2]
    refine vc_skip ?_
    refine vc_then ?_
    refine vc_seq ?_
    refine vc_region ?_
    iterate 4 refine vp ?_
    refine vc_callv ca_118 (us := []) (vs := []) rfl [_, _, _] rfl [2, 2, 2, 2] rfl (rfWith hv hH H.m) rfl ?_
    rintro _ _ ⟨b2, hO2, T2, rfl, hT2, rfl⟩
    refine vp ?_
    refine vc_y (y_fieldP fl_67_2 5 rfl rfl) rfl ?_
    refine vc_y (y_load1 0 rfl one_65 rfl (Pts.vis rfl)) rfl ?_
    refine vp ?_
    refine vc_y (y_fieldP fl_67_2 5 rfl rfl) rfl ?_
    refine vc_storeP 3 rfl [_] [_, _, _, _, _, _] rfl rfl rfl sz_65 rfl rfl rfl ?_
    refine vc_nil ?_
    refine vc_then ?_
    refine vc_seq ?_
    refine vc_region ?_
    iterate 3 refine vp ?_
    refine vc_nil ?_
    refine vc_then ?_
    refine vc_ret ?_
    exact vc_end2 Tryz.results68 rfl rfl _ (ent_pick [3, 1, 1, 4, 4, 3] rfl) ⟨rfl, _, _, _, _, ⟨hok, H.ring, H.quota, H.most, hT2, hg, hps.2.1.trans H.bg⟩, rfl⟩
end Go.Proofs.YtcpbibdbahfgaaaGreat
namespace Go.Proofs.YtcpbibdbahfgaaaGreat
open Go.Eng
namespace FRef7
theorem one_4 : TyOne Tryz.prog 4 := ⟨⟨_, Tryz.underlying4, rfl⟩, by kernel_rfl⟩
theorem one_9 : TyOne Tryz.prog 9 := ⟨⟨_, Tryz.underlying9, rfl⟩, by kernel_rfl⟩
theorem one_34 : TyOne Tryz.prog 34 := ⟨⟨_, Tryz.underlying34, rfl⟩, by kernel_rfl⟩
theorem one_3 : TyOne Tryz.prog 3 := ⟨⟨_, Tryz.underlying3, rfl⟩, by kernel_rfl⟩
theorem ag_45 : TyAgg Tryz.prog 45 3 := ⟨⟨_, Tryz.underlying45, rfl⟩, by kernel_rfl⟩
theorem sl_52 : TySl Tryz.prog 52 56 5 := ⟨Tryz.underlying52, by kernel_rfl⟩
theorem ag_56 : TyAgg Tryz.prog 56 5 := ⟨⟨_, Tryz.underlying56, rfl⟩, by kernel_rfl⟩
theorem eg_56 : Tryz.prog.eqGuardType Tryz.prog.depth 56 = false := by kernel_rfl
theorem ag_24 : TyAgg Tryz.prog 24 4 := ⟨⟨_, Tryz.underlying24, rfl⟩, by kernel_rfl⟩
theorem fl_24_1 : Fld Tryz.prog 24 1 1 := ⟨_, _, 0, Tryz.underlying24, rfl, rfl, by kernel_rfl⟩
theorem ze_126 : (Tryz.prog.info? 126).map (·.zero) = some (some (.agg #[.int .i64 0, .int .i64 0, .slice none 0 0])) := by kernel_rfl
theorem bu_126_0_1 (v0 : Value) (v1 : Value) (h0 : v0.cells = #[v0]) (h1 : v1.cells = #[v1]) (w : World) : (Instr.build 126 #[(0, v0), (1, v1)]).run Tryz.prog w = .ok (.agg #[v0, v1, .slice none 0 0]) w := by
 have hz := @ze_126
 exact Go.Eng.run_build (pl := [(0, 1), (1, 1), (2, 1)]) hz Tryz.underlying126 (by kernel_rfl) rfl (by simp [Instr.fill, h0, h1, cells_agg]) w
theorem ze_67 : (Tryz.prog.info? 67).map (·.zero) = some (some (.agg #[.slice none 0 0, .int .i64 0, .int .i64 0, .int .i64 0, .pointer none, .slice none 0 0])) := by kernel_rfl
theorem bu_67_0_1 (v0_0 v0_1 v0_2 v0_3 : Value) (v1 : Value) (h1 : v1.cells = #[v1]) (w : World) : (Instr.build 67 #[(0, .agg #[v0_0, v0_1, v0_2, v0_3]), (1, v1)]).run Tryz.prog w = .ok (.agg #[v0_0, v0_1, v0_2, v0_3, v1, .slice none 0 0]) w := by
 have hz := @ze_67
 exact Go.Eng.run_build (pl := [(0, 4), (4, 1), (5, 1)]) hz Tryz.underlying67 (by kernel_rfl) rfl (by simp [Instr.fill, h1, cells_agg]) w
theorem sl_22 : TySl Tryz.prog 22 34 1 := ⟨Tryz.underlying22, by kernel_rfl⟩
theorem fl_24_0 : Fld Tryz.prog 24 0 0 := ⟨_, _, 0, Tryz.underlying24, rfl, rfl, by kernel_rfl⟩
theorem one_22 : TyOne Tryz.prog 22 := ⟨⟨_, Tryz.underlying22, rfl⟩, by kernel_rfl⟩
theorem ca_94 : Callable Tryz.prog 94 := ⟨_, _, Tryz.func94, rfl, rfl⟩
theorem fl_24_2 : Fld Tryz.prog 24 2 2 := ⟨_, _, 0, Tryz.underlying24, rfl, rfl, by kernel_rfl⟩
theorem fl_24_3 : Fld Tryz.prog 24 3 3 := ⟨_, _, 0, Tryz.underlying24, rfl, rfl, by kernel_rfl⟩
theorem ca_91 : Callable Tryz.prog 91 := ⟨_, _, Tryz.func91, rfl, rfl⟩
theorem sz_152 : (Tryz.prog.info? 152).map (·.size) = some 2 := by kernel_rfl
theorem ze_152 : (Tryz.prog.info? 152).map (·.zero) = some (some (.agg #[.string ⟨#[]⟩, .slice none 0 0])) := by kernel_rfl
theorem bs_65_0   (w : World) : (Instr.buildSlice 65 0 #[]).run Tryz.prog w = .ok (.slice (some ⟨w.heap.size, 0, none⟩) 0 0) { w with heap := w.heap.push (.cells #[] 152 (0, 0)) } :=
 Go.Eng.run_buildSlice Tryz.underlying65 sz_152 ze_152 (by decide) (by rw [show Array.range (0 * 2) = #[] from by decide]; simp [Instr.fill, cells_agg]) w
theorem fl_67_2 : Fld Tryz.prog 67 2 5 := ⟨_, _, 0, Tryz.underlying67, rfl, rfl, by kernel_rfl⟩
theorem one_65 : TyOne Tryz.prog 65 := ⟨⟨_, Tryz.underlying65, rfl⟩, by kernel_rfl⟩
theorem sl_65 : TySl Tryz.prog 65 152 2 := ⟨Tryz.underlying65, by kernel_rfl⟩
theorem fl_152_1 : Fld Tryz.prog 152 1 1 := ⟨_, _, 0, Tryz.underlying152, rfl, rfl, by kernel_rfl⟩
theorem one_138 : TyOne Tryz.prog 138 := ⟨⟨_, Tryz.underlying138, rfl⟩, by kernel_rfl⟩
theorem ca_90 : Callable Tryz.prog 90 := ⟨_, _, Tryz.func90, rfl, rfl⟩
theorem ca_119 : Callable Tryz.prog 119 := ⟨_, _, Tryz.func119, rfl, rfl⟩
theorem fl_152_0 : Fld Tryz.prog 152 0 0 := ⟨_, _, 0, Tryz.underlying152, rfl, rfl, by kernel_rfl⟩
theorem bu_152_0_1 (v0 : Value) (v1 : Value) (h0 : v0.cells = #[v0]) (h1 : v1.cells = #[v1]) (w : World) : (Instr.build 152 #[(0, v0), (1, v1)]).run Tryz.prog w = .ok (.agg #[v0, v1]) w := by
 have hz := @ze_152
 exact Go.Eng.run_build (pl := [(0, 1), (1, 1)]) hz Tryz.underlying152 (by kernel_rfl) rfl (by simp [Instr.fill, h0, h1, cells_agg]) w
theorem bs_65_1 (v0_0 v0_1 : Value)  (w : World) : (Instr.buildSlice 65 1 #[(0, .agg #[v0_0, v0_1])]).run Tryz.prog w = .ok (.slice (some ⟨w.heap.size, 0, none⟩) 1 1) { w with heap := w.heap.push (.cells #[v0_0, v0_1] 152 (0, 0)) } :=
 Go.Eng.run_buildSlice Tryz.underlying65 sz_152 ze_152 (by decide) (by rw [show Array.range (1 * 2) = #[0, 1] from by decide]; simp [Instr.fill, cells_agg]) w
theorem el_65_eOne : TyEl Tryz.prog 65 eOne 40 := ⟨Tryz.underlying65, .agg #[.string ⟨#[]⟩, .slice none 0 0], by kernel_rfl, rfl⟩
theorem sz_65 : (Tryz.prog.info? 65).map (·.size) = some 1 := by kernel_rfl
end FRef7
open FRef7
theorem eqd_45 (x y : Val) : ∀ w, (Op.equalIn 9999 45 (.agg x.cs.toArray) (.agg y.cs.toArray)).run Tryz.prog w = .ok (valEq x y) w := fun w => by
 rw [run_equalIn_struct w _ _ _ _ (by kernel_rfl) (by kernel_rfl)]
 unfold Program.fieldsOf
 rw [Tryz.underlying45]
 show (Op.eqFields _ _ _ [_, _, _]).run _ _ = _
 unfold valEq
 refine eqF_cons (by decide) (run_part1 one_4 rfl w) (run_part1 one_4 rfl w) (run_equalIn_bool' w _ _ _ _ Tryz.underlying4) ?_
 refine eqF_cons (by decide) (run_part1 one_9 rfl w) (run_part1 one_9 rfl w) (run_equalIn_string w _ _ _ _ Tryz.underlying9) ?_
 refine eqF_cons (by decide) (run_part1 one_34 rfl w) (run_part1 one_34 rfl w) (run_equalIn_int w _ _ .u64 .u64 _ _ Tryz.underlying34) ?_
 exact eqF_nil
theorem eqv_56 (x y : En) : ∀ w, (Op.equalIn 10000 56 (.agg x.cs.toArray) (.agg y.cs.toArray)).run Tryz.prog w = .ok (x.key.toList == y.key.toList && (x.seq == y.seq && (valEq x.val y.val && true))) w := fun w => by
 rw [run_equalIn_struct w _ _ _ _ (by kernel_rfl) (by kernel_rfl)]
 unfold Program.fieldsOf
 rw [Tryz.underlying56]
 show (Op.eqFields _ _ _ [_, _, _]).run _ _ = _
 refine eqF_cons (by decide) (run_part1 one_9 rfl w) (run_part1 one_9 rfl w) (run_equalIn_string w _ _ _ _ Tryz.underlying9) ?_
 refine eqF_cons (by decide) (run_part1 one_3 rfl w) (run_part1 one_3 rfl w) (run_equalIn_int w _ _ .i64 .i64 _ _ Tryz.underlying3) ?_
 refine eqF_cons (by decide) (run_partA ag_45 _ _ w) (run_partA ag_45 _ _ w) (eqd_45 x.val y.val w) ?_
 exact eqF_nil
theorem valEq_self (x : Val) : valEq x x = true := by simp [valEq]
theorem refSame_spec {A B : HP} {h g : SH} {xs : List En} (hv : Vis A (Rd eEn h xs)) (hv2 : Vis B (Rd eEn g xs)) (hb : xs.length ≤ 1000000) : Does Tryz.prog 25 [h.v, g.v] [A, B] (fun v l => v = .bool true ∧ l = [A, B]) := by
 refine spec_of Tryz.func25 rfl Tryz.ntmps25 Tryz.results25 _ (by simp) fun ι F => ?_
 refine vc_see 0 rfl (hv.imp fun w r => r.len) (fun hlen => ?_)
 refine vc_see 1 rfl (hv2.imp fun w r => r.len) (fun hlen2 => ?_)
 refine vc_seq ?_
 refine vc_region ?_
 refine vp ?_
 refine vc_nil ?_
 refine vc_then ?_
 refine vc_seq ?_
 refine vc_seq ?_
 refine vc_region ?_
 refine vp ?_
 refine vc_y (y_len Tryz.underlying52 rfl (by first | assumption | rfl)) rfl ?_
 refine vp ?_
 refine vc_y (y_len Tryz.underlying52 rfl (by first | assumption | rfl)) rfl ?_
 refine vp ?_
 refine vc_nil ?_
 refine vc_then ?_
 first | refine vc_condP rfl (fun c10 => ?_) (fun c10 => ?_) | refine vc_condN rfl (fun c10 => ?_) (fun c10 => ?_) | refine vc_cond rfl (fun c10 => ?_) (fun c10 => ?_)
 ·skip
  simp at c10
 ·skip
  refine vc_skip ?_
  refine vc_then ?_
  refine vc_seq ?_
  refine vc_seq ?_
  refine vc_region ?_
  refine vp ?_
  refine vc_nil ?_
  refine vc_then ?_
  refine vc_block ?_
  refine vc_loop (α := Nat) (fun xq_ => match xq_ with | i => [(0, h.v), (1, g.v), (5, .int .i64 (i : Int))]) (fun xq_ => match xq_ with | i => [A, B]) (fun xq_ => match xq_ with | i => xs.length - i) (fun xq_ => match xq_ with | i => i ≤ xs.length) 0 (Nat.zero_le _) ⟨rfl, rfl, rfl, trivial⟩ (ent_pick [0, 0] rfl) ?_
  rintro i hi
  show VC _ _ _ _ [(0, h.v), (1, g.v), (5, .int .i64 (i : Int))] ([A, B])
  refine vc_seq ?_
  refine vc_seq ?_
  refine vc_region ?_
  refine vp ?_
  refine vp ?_
  refine vc_y (y_len Tryz.underlying52 rfl (by first | assumption | rfl)) rfl ?_
  refine vp ?_
  refine vc_nil ?_
  refine vc_then ?_
  first | refine vc_condP rfl (fun c14 => ?_) (fun c14 => ?_) | refine vc_condN rfl (fun c14 => ?_) (fun c14 => ?_) | refine vc_cond rfl (fun c14 => ?_) (fun c14 => ?_)
  ·skip
   have hi2 : i < xs.length := by omega
   refine vc_skip ?_
   refine vc_then ?_
   refine vc_seq ?_
   refine vc_block ?_
   refine vc_seq ?_
   refine vc_draw (by kernel_rfl) _ none [0, 0] rfl ?_
   refine tpp 0 ?_
   refine tpp 1 ?_
   refine tk 2 rfl (by exact y_elem 0 rfl (hv) i rfl hi2 sl_52 rfl rfl) ?_
   refine tk 3 rfl (by exact y_loadA 0 rfl (cs := [_, _, _, _, _]) ag_56 rfl (Rd.visA (hv) (List.getElem?_eq_getElem (by first | assumption | omega)) rfl)) ?_
   refine tpp 4 ?_
   refine tpp 5 ?_
   refine tk 6 rfl (by exact y_elem 1 rfl (hv2) i rfl hi2 sl_52 rfl rfl) ?_
   refine tk 7 rfl (by exact y_loadA 1 rfl (cs := [_, _, _, _, _]) ag_56 rfl (Rd.visA (hv2) (List.getElem?_eq_getElem (by first | assumption | omega)) rfl)) ?_
   refine tp 8 rfl (by exact y_neS eg_56 (eqv_56 xs[i] xs[i]) rfl rfl) ?_
   refine va_done (by kernel_rfl) ?_
   refine vc_then ?_
   first | refine vc_condP rfl (fun c25 => ?_) (fun c25 => ?_) | refine vc_condN rfl (fun c25 => ?_) (fun c25 => ?_) | refine vc_cond rfl (fun c25 => ?_) (fun c25 => ?_)
   ·skip
    simp [valEq_self] at c25
   ·skip
    refine vc_skip ?_
    refine vc_inNormal ?_
    refine vc_then ?_
    refine vc_region ?_
    refine vp ?_
    first | refine vc_y (y_arith _ rfl (wrapNadd (by omega))) rfl ?_ | refine vc_y (y_arith _ rfl (wrap64 (by omega) (by omega))) rfl ?_ | refine vp ?_
    refine vp ?_
    refine vc_nil ?_
    refine vc_then ?_
    exact vc_again (x := i) (i + 1) hi2 (by show xs.length - (i + 1) < xs.length - i; omega) ⟨rfl, rfl, rfl, trivial⟩ (ent_pick [0, 0] rfl)
  ·skip
   refine vc_exit ?_
   refine vc_thenExit ?_
   refine vc_thenExit ?_
   refine vc_inExit ?_
   refine vc_then ?_
   refine vc_seq ?_
   refine vc_region ?_
   refine vp ?_
   refine vc_nil ?_
   refine vc_then ?_
   refine vc_ret ?_
   exact vc_end1 Tryz.results25 rfl _ (ent_pick [0, 0] rfl) ⟨rfl, rfl⟩
theorem refNew_spec {hl : SH} (ring quota most seq : Int) : Does Tryz.prog 12 [.agg #[hl.v, .int .i64 ring, .int .i64 quota, .int .i64 most], .int .i64 seq] [] (fun v l => ∃ b bG, v = .pointer (some ⟨b, 0, none⟩) ∧ l = RfL b ⟨hl, ring, quota, most, bG⟩ nilS [] ++ [RgP bG ring seq nilS, Sl eU64 nilS []]) := by
 refine spec_of Tryz.func12 rfl Tryz.ntmps12 Tryz.results12 _ (by simp) fun ι F => ?_
 refine vc_seq ?_
 refine vc_region ?_
 refine vc_box [_, _, _, _] rfl rfl rfl (fun b2 => ?_)
 refine vp ?_
 refine vc_nil ?_
 refine vc_then ?_
 refine vc_seq ?_
 refine vc_region ?_
 refine vc_y (y_loadA 0 rfl (cs := [_, _, _, _]) ag_24 rfl (Pts.visA rfl)) rfl ?_
 refine vc_y (y_fieldP fl_24_1 1 rfl rfl) rfl ?_
 refine vc_y (y_load1 0 rfl one_3 rfl (Pts.vis rfl)) rfl ?_
 refine vp ?_
 refine vc_y (y_build [(0, _), (1, _)] [_, _, _] rfl (bu_126_0_1 _ _ rfl rfl)) rfl ?_
 refine vc_box [_, _, _] rfl rfl rfl (fun b10 => ?_)
 refine vc_y (y_build [(0, _), (1, _)] [_, _, _, _, _, _] rfl (bu_67_0_1 _ _ _ _ _ rfl)) rfl ?_
 refine vc_box [_, _, _, _, _, _] rfl rfl rfl (fun b12 => ?_)
 refine vp ?_
 refine vc_nil ?_
 refine vc_then ?_
 refine vc_ret ?_
 exact vc_end1 Tryz.results12 rfl _ ((ent_at [0, 0] rfl (ent_cons ((Ent.empL.trans (Ent.sep RoSl.nil Ent.rfl)).trans (ent_cons ((Ent.empL.trans (Ent.sep RoM.nil Ent.rfl)).trans (ent_cons (ent_cons sl_new)))))))) ⟨b12, b10, rfl, rfl⟩
theorem refLRight_spec {A : HP} {h : SH} {xs : List Int} (hv : Vis A (Rd eU64 h xs)) (hp : ∀ t ∈ xs, 0 ≤ t) (hb : xs.length ≤ 1000000) : Does Tryz.prog 94 [h.v] [A] (fun v l => v = .bool (labelRight xs) ∧ l = [A]) := by
 refine spec_of Tryz.func94 rfl Tryz.ntmps94 Tryz.results94 _ (by simp) fun ι F => ?_
 refine vc_see 0 rfl (hv.imp fun w r => r.len) (fun hlen => ?_)
 refine vc_seq ?_
 refine vc_region ?_
 refine vp ?_
 refine vc_nil ?_
 refine vc_then ?_
 refine vc_seq ?_
 refine vc_seq ?_
 refine vc_region ?_
 refine vp ?_
 refine vc_nil ?_
 refine vc_then ?_
 refine vc_block ?_
 refine vc_loop (α := Nat) (fun xq_ => match xq_ with | i => [(0, h.v), (3, .int .i64 (i : Int))]) (fun xq_ => match xq_ with | i => [A]) (fun xq_ => match xq_ with | i => xs.length - i) (fun xq_ => match xq_ with | i => i ≤ xs.length ∧ tagFrom 0 xs = tagFrom (lastT xs i) (xs.drop i)) 0 ⟨Nat.zero_le _, rfl⟩ ⟨rfl, rfl, trivial⟩ (ent_pick [0] rfl) ?_
 rintro i ⟨hi, hch⟩
 show VC _ _ _ _ [(0, h.v), (3, .int .i64 (i : Int))] ([A])
 refine vc_seq ?_
 refine vc_seq ?_
 refine vc_region ?_
 refine vp ?_
 refine vp ?_
 refine vc_y (y_len Tryz.underlying22 rfl (by first | assumption | rfl)) rfl ?_
 refine vp ?_
 refine vc_nil ?_
 refine vc_then ?_
 first | refine vc_condP rfl (fun c7 => ?_) (fun c7 => ?_) | refine vc_condN rfl (fun c7 => ?_) (fun c7 => ?_) | refine vc_cond rfl (fun c7 => ?_) (fun c7 => ?_)
 ·skip
  have hi2 : i < xs.length := by omega
  have hp2 := hp _ (List.getElem_mem hi2)
  have hch2 : tagFrom 0 xs = (decide (lastT xs i < xs[i]) && tagFrom xs[i] (xs.drop (i + 1))) := by rw [hch, List.drop_eq_getElem_cons hi2]; rfl
  refine vc_skip ?_
  refine vc_then ?_
  refine vc_seq ?_
  refine vc_block ?_
  refine vc_seq ?_
  refine vc_draw (by kernel_rfl) _ none [0] rfl ?_
  refine tpp 0 ?_
  refine tpp 1 ?_
  refine tk 2 rfl (by exact y_elem 0 rfl (hv) i rfl hi2 sl_22 rfl rfl) ?_
  refine tk 3 rfl (by exact y_load1 0 rfl one_34 rfl (Rd.vis1 (hv) (List.getElem?_eq_getElem (by first | assumption | omega)) rfl)) ?_
  refine tpp 4 ?_
  refine tpp 5 ?_
  first | refine va_splitP 15 rfl (fun c15 => ?_) (fun c15 => ?_) | refine va_splitN 15 rfl (fun c15 => ?_) (fun c15 => ?_) | refine va_split 15 rfl (fun c15 => ?_) (fun c15 => ?_)
  ·skip
   have hlt0 : 0 ≤ lastT xs i := by
    cases i with
    | zero => exact Int.le_refl _
    | succ k => rw [lastT_succ (by omega)]; exact hp _ (List.getElem_mem (by omega))
   refine sk 6 15 ?_
   refine sk 7 15 ?_
   refine sk 8 15 ?_
   refine sku 9 18 ?_
   refine sku 10 18 ?_
   refine sku 11 18 ?_
   refine sku 12 18 ?_
   refine sku 13 18 ?_
   refine sku 14 18 ?_
   refine sku 15 18 ?_
   refine sku 16 18 ?_
   refine sku 17 18 ?_
   refine sku 18 18 ?_
   refine sk 19 15 ?_
   refine tpp 20 ?_
   refine va_done (by kernel_rfl) ?_
   refine vc_then ?_
   refine vc_condT rfl ?_
   refine vc_seq ?_
   refine vc_region ?_
   refine vp ?_
   refine vc_nil ?_
   refine vc_then ?_
   refine vc_ret ?_
   refine vc_inRet ?_
   refine vc_thenRet ?_
   refine vc_thenRet ?_
   refine vc_inRet ?_
   refine vc_thenRet ?_
   exact vc_end1 Tryz.results94 rfl _ (ent_pick [0] rfl) ⟨by first | (unfold labelRight; rw [hch2, show decide (lastT xs i < xs[i]) = false from decide_eq_false (by omega)]; simp; done) | (unfold labelRight; rw [hch]; simp [tagFrom]), rfl⟩
  ·skip
   refine tgp 6 15 ?_
   refine tgp 7 15 ?_
   refine tgp 8 15 ?_
   first | refine va_splitP 18 rfl (fun c18 => ?_) (fun c18 => ?_) | refine va_splitN 18 rfl (fun c18 => ?_) (fun c18 => ?_) | refine va_split 18 rfl (fun c18 => ?_) (fun c18 => ?_)
   ·skip
    have hls : lastT xs i = xs[i - 1]'(by omega) := by
     have := lastT_succ (l := xs) (i := i - 1) (by omega)
     rwa [show i - 1 + 1 = i by omega] at this
    have hp3 := hp _ (List.getElem_mem (show i - 1 < xs.length by omega))
    refine tgp 9 18 ?_
    refine tgp 10 18 ?_
    refine tg 11 18 rfl (by exact y_arith ((i - 1 : Nat) : Int) rfl (wrapNsub (by omega))) ?_
    refine tkg 12 18 rfl (by exact y_elem 0 rfl (hv) (i - 1) rfl (by omega) sl_22 rfl rfl) ?_
    refine tkg 13 18 rfl (by exact y_load1 0 rfl one_34 rfl (Rd.vis1 (hv) (List.getElem?_eq_getElem (by first | assumption | omega)) rfl)) ?_
    refine tgp 14 18 ?_
    refine tgp 15 18 ?_
    refine tkg 16 18 rfl (by exact y_elem 0 rfl (hv) i rfl hi2 sl_22 rfl rfl) ?_
    refine tkg 17 18 rfl (by exact y_load1 0 rfl one_34 rfl (Rd.vis1 (hv) (List.getElem?_eq_getElem (by first | assumption | omega)) rfl)) ?_
    refine tgp 18 18 ?_
    refine tgp 19 15 ?_
    refine tpp 20 ?_
    refine va_done (by kernel_rfl) ?_
    refine vc_then ?_
    first | refine vc_condP rfl (fun c30 => ?_) (fun c30 => ?_) | refine vc_condN rfl (fun c30 => ?_) (fun c30 => ?_) | refine vc_cond rfl (fun c30 => ?_) (fun c30 => ?_)
    ·skip
     refine vc_seq ?_
     refine vc_region ?_
     refine vp ?_
     refine vc_nil ?_
     refine vc_then ?_
     refine vc_ret ?_
     refine vc_inRet ?_
     refine vc_thenRet ?_
     refine vc_thenRet ?_
     refine vc_inRet ?_
     refine vc_thenRet ?_
     exact vc_end1 Tryz.results94 rfl _ (ent_pick [0] rfl) ⟨by first | (unfold labelRight; rw [hch2, show decide (lastT xs i < xs[i]) = false from decide_eq_false (by omega)]; simp; done) | (unfold labelRight; rw [hch]; simp [tagFrom]), rfl⟩
    ·skip
     refine vc_skip ?_
     refine vc_inNormal ?_
     refine vc_then ?_
     refine vc_region ?_
     refine vp ?_
     first | refine vc_y (y_arith _ rfl (wrapNadd (by omega))) rfl ?_ | refine vc_y (y_arith _ rfl (wrap64 (by omega) (by omega))) rfl ?_ | refine vp ?_
     refine vp ?_
     refine vc_nil ?_
     refine vc_then ?_
     exact vc_again (x := i) (i + 1) ⟨hi2, by rw [hch2, lastT_succ hi2, decide_eq_true (by omega)]; rfl⟩ (by show xs.length - (i + 1) < xs.length - i; omega) ⟨rfl, rfl, trivial⟩ (ent_pick [0] rfl)
   ·skip
    have hls : lastT xs i = 0 := by
     obtain rfl : i = 0 := by omega
     rfl
    refine sk 9 18 ?_
    refine sk 10 18 ?_
    refine sk 11 18 ?_
    refine sk 12 18 ?_
    refine sk 13 18 ?_
    refine sk 14 18 ?_
    refine sk 15 18 ?_
    refine sk 16 18 ?_
    refine sk 17 18 ?_
    refine sk 18 18 ?_
    refine tgp 19 15 ?_
    refine tpp 20 ?_
    refine va_done (by kernel_rfl) ?_
    refine vc_then ?_
    refine vc_condF rfl ?_
    refine vc_skip ?_
    refine vc_inNormal ?_
    refine vc_then ?_
    refine vc_region ?_
    refine vp ?_
    first | refine vc_y (y_arith _ rfl (wrapNadd (by omega))) rfl ?_ | refine vc_y (y_arith _ rfl (wrap64 (by omega) (by omega))) rfl ?_ | refine vp ?_
    refine vp ?_
    refine vc_nil ?_
    refine vc_then ?_
    exact vc_again (x := i) (i + 1) ⟨hi2, by rw [hch2, lastT_succ hi2, decide_eq_true (by omega)]; rfl⟩ (by show xs.length - (i + 1) < xs.length - i; omega) ⟨rfl, rfl, trivial⟩ (ent_pick [0] rfl)
 ·skip
  obtain rfl : i = xs.length := by omega
  rw [List.drop_length] at hch
  refine vc_exit ?_
  refine vc_thenExit ?_
  refine vc_thenExit ?_
  refine vc_inExit ?_
  refine vc_then ?_
  refine vc_seq ?_
  refine vc_region ?_
  refine vp ?_
  refine vc_y (y_len Tryz.underlying22 rfl (by first | assumption | rfl)) rfl ?_
  refine vp ?_
  refine vp ?_
  refine vc_nil ?_
  refine vc_then ?_
  refine vc_ret ?_
  exact vc_end1 Tryz.results94 rfl _ (ent_pick [0] rfl) ⟨by first | (unfold labelRight; rw [hch2, show decide (lastT xs i < xs[i]) = false from decide_eq_false (by omega)]; simp; done) | (unfold labelRight; rw [hch]; simp [tagFrom]), rfl⟩
theorem refRRight_spec {A : HP} {h : SH} {xs : List Int} (hv : Vis A (Rd eU64 h xs)) (hp : ∀ t ∈ xs, 0 ≤ t) (hb : xs.length ≤ 1000000) (ring quota most : Int) : Does Tryz.prog 31 [.agg #[h.v, .int .i64 ring, .int .i64 quota, .int .i64 most]] [A] (fun v l => v = .bool (setRight xs ring quota most) ∧ l = [A]) := by
 refine spec_of Tryz.func31 rfl Tryz.ntmps31 Tryz.results31 _ (by simp) fun ι F => ?_
 refine vc_seq ?_
 refine vc_region ?_
 refine vc_box [_, _, _, _] rfl rfl rfl (fun b1 => ?_)
 refine vp ?_
 refine vc_nil ?_
 refine vc_then ?_
 refine vc_seq ?_
 refine vc_region ?_
 refine vc_y (y_fieldP fl_24_0 0 rfl rfl) rfl ?_
 refine vc_y (y_load1 0 rfl one_22 rfl (Pts.vis rfl)) rfl ?_
 refine vc_callv ca_94 (us := []) (vs := []) rfl [_] rfl [1] rfl (refLRight_spec hv hp hb) rfl ?_
 rintro _ _ ⟨rfl, rfl⟩
 refine vp ?_
 first | refine vc_splitP 6 rfl (fun c6 => ?_) (fun c6 => ?_) | refine vc_splitN 6 rfl (fun c6 => ?_) (fun c6 => ?_) | refine vc_split 6 rfl (fun c6 => ?_) (fun c6 => ?_)
 ·skip
  refine vc_guardT 6 rfl rfl ?_
  refine vc_y (y_fieldP fl_24_1 1 rfl rfl) rfl ?_
  refine vc_guardT 6 rfl rfl ?_
  refine vc_y (y_load1 1 rfl one_3 rfl (Pts.vis rfl)) rfl ?_
  refine vc_guardT 6 rfl rfl ?_
  iterate 3 refine vp ?_
  first | refine vc_splitP 11 rfl (fun c11 => ?_) (fun c11 => ?_) | refine vc_splitN 11 rfl (fun c11 => ?_) (fun c11 => ?_) | refine vc_split 11 rfl (fun c11 => ?_) (fun c11 => ?_)
  ·skip
   refine vc_guardT 11 rfl rfl ?_
   refine vc_y (y_fieldP fl_24_1 1 rfl rfl) rfl ?_
   refine vc_guardT 11 rfl rfl ?_
   refine vc_y (y_load1 1 rfl one_3 rfl (Pts.vis rfl)) rfl ?_
   refine vc_guardT 11 rfl rfl ?_
   iterate 3 refine vp ?_
   first | refine vc_splitP 16 rfl (fun c16 => ?_) (fun c16 => ?_) | refine vc_splitN 16 rfl (fun c16 => ?_) (fun c16 => ?_) | refine vc_split 16 rfl (fun c16 => ?_) (fun c16 => ?_)
   ·skip
    refine vc_guardT 16 rfl rfl ?_
    refine vc_y (y_fieldP fl_24_2 2 rfl rfl) rfl ?_
    refine vc_guardT 16 rfl rfl ?_
    refine vc_y (y_load1 1 rfl one_3 rfl (Pts.vis rfl)) rfl ?_
    refine vc_guardT 16 rfl rfl ?_
    iterate 3 refine vp ?_
    first | refine vc_splitP 21 rfl (fun c21 => ?_) (fun c21 => ?_) | refine vc_splitN 21 rfl (fun c21 => ?_) (fun c21 => ?_) | refine vc_split 21 rfl (fun c21 => ?_) (fun c21 => ?_)
    ·skip
     refine vc_guardT 21 rfl rfl ?_
     refine vc_y (y_fieldP fl_24_2 2 rfl rfl) rfl ?_
     refine vc_guardT 21 rfl rfl ?_
     refine vc_y (y_load1 1 rfl one_3 rfl (Pts.vis rfl)) rfl ?_
     refine vc_guardT 21 rfl rfl ?_
     iterate 3 refine vp ?_
     first | refine vc_splitP 26 rfl (fun c26 => ?_) (fun c26 => ?_) | refine vc_splitN 26 rfl (fun c26 => ?_) (fun c26 => ?_) | refine vc_split 26 rfl (fun c26 => ?_) (fun c26 => ?_)
     ·skip
      refine vc_guardT 26 rfl rfl ?_
      refine vc_y (y_fieldP fl_24_3 3 rfl rfl) rfl ?_
      refine vc_guardT 26 rfl rfl ?_
      refine vc_y (y_load1 1 rfl one_3 rfl (Pts.vis rfl)) rfl ?_
      refine vc_guardT 26 rfl rfl ?_
      iterate 3 refine vp ?_
      first | refine vc_splitP 31 rfl (fun c31 => ?_) (fun c31 => ?_) | refine vc_splitN 31 rfl (fun c31 => ?_) (fun c31 => ?_) | refine vc_split 31 rfl (fun c31 => ?_) (fun c31 => ?_)
      ·skip
       refine vc_guardT 31 rfl rfl ?_
       refine vc_y (y_fieldP fl_24_3 3 rfl rfl) rfl ?_
       refine vc_guardT 31 rfl rfl ?_
       refine vc_y (y_load1 1 rfl one_3 rfl (Pts.vis rfl)) rfl ?_
       refine vc_guardT 31 rfl rfl ?_
       iterate 3 refine vp ?_
       refine vc_nil ?_
       refine vc_then ?_
       refine vc_ret ?_
       exact vc_end1 Tryz.results31 rfl _ (ent_pick [0] rfl) ⟨by simp [setRight, *], rfl⟩
      ·skip
       refine vc_guardF 31 rfl rfl rfl rfl ?_
       refine vc_guardF 31 rfl rfl rfl rfl ?_
       refine vc_guardF 31 rfl rfl rfl rfl ?_
       refine vp ?_
       refine vp ?_
       refine vc_nil ?_
       refine vc_then ?_
       refine vc_ret ?_
       exact vc_end1 Tryz.results31 rfl _ (ent_pick [0] rfl) ⟨by simp [setRight, *], rfl⟩
     ·skip
      refine vc_guardF 26 rfl rfl rfl rfl ?_
      refine vc_guardF 26 rfl rfl rfl rfl ?_
      refine vc_guardF 26 rfl rfl rfl rfl ?_
      refine vp ?_
      refine vp ?_
      refine vc_guardF 31 rfl rfl rfl rfl ?_
      refine vc_guardF 31 rfl rfl rfl rfl ?_
      refine vc_guardF 31 rfl rfl rfl rfl ?_
      refine vp ?_
      refine vp ?_
      refine vc_nil ?_
      refine vc_then ?_
      refine vc_ret ?_
      exact vc_end1 Tryz.results31 rfl _ (ent_pick [0] rfl) ⟨by simp [setRight, *], rfl⟩
    ·skip
     refine vc_guardF 21 rfl rfl rfl rfl ?_
     refine vc_guardF 21 rfl rfl rfl rfl ?_
     refine vc_guardF 21 rfl rfl rfl rfl ?_
     refine vp ?_
     refine vp ?_
     refine vc_guardF 26 rfl rfl rfl rfl ?_
     refine vc_guardF 26 rfl rfl rfl rfl ?_
     refine vc_guardF 26 rfl rfl rfl rfl ?_
     refine vp ?_
     refine vp ?_
     refine vc_guardF 31 rfl rfl rfl rfl ?_
     refine vc_guardF 31 rfl rfl rfl rfl ?_
     refine vc_guardF 31 rfl rfl rfl rfl ?_
     refine vp ?_
     refine vp ?_
     refine vc_nil ?_
     refine vc_then ?_
     refine vc_ret ?_
     exact vc_end1 Tryz.results31 rfl _ (ent_pick [0] rfl) ⟨by simp [setRight, *], rfl⟩
   ·skip
    refine vc_guardF 16 rfl rfl rfl rfl ?_
    refine vc_guardF 16 rfl rfl rfl rfl ?_
    refine vc_guardF 16 rfl rfl rfl rfl ?_
    refine vp ?_
    refine vp ?_
    refine vc_guardF 21 rfl rfl rfl rfl ?_
    refine vc_guardF 21 rfl rfl rfl rfl ?_
    refine vc_guardF 21 rfl rfl rfl rfl ?_
    refine vp ?_
    refine vp ?_
    refine vc_guardF 26 rfl rfl rfl rfl ?_
    refine vc_guardF 26 rfl rfl rfl rfl ?_
    refine vc_guardF 26 rfl rfl rfl rfl ?_
    refine vp ?_
    refine vp ?_
    refine vc_guardF 31 rfl rfl rfl rfl ?_
    refine vc_guardF 31 rfl rfl rfl rfl ?_
    refine vc_guardF 31 rfl rfl rfl rfl ?_
    refine vp ?_
    refine vp ?_
    refine vc_nil ?_
    refine vc_then ?_
    refine vc_ret ?_
    exact vc_end1 Tryz.results31 rfl _ (ent_pick [0] rfl) ⟨by simp [setRight, *], rfl⟩
  ·skip
   refine vc_guardF 11 rfl rfl rfl rfl ?_
   refine vc_guardF 11 rfl rfl rfl rfl ?_
   refine vc_guardF 11 rfl rfl rfl rfl ?_
   refine vp ?_
   refine vp ?_
   refine vc_guardF 16 rfl rfl rfl rfl ?_
   refine vc_guardF 16 rfl rfl rfl rfl ?_
   refine vc_guardF 16 rfl rfl rfl rfl ?_
   refine vp ?_
   refine vp ?_
   refine vc_guardF 21 rfl rfl rfl rfl ?_
   refine vc_guardF 21 rfl rfl rfl rfl ?_
   refine vc_guardF 21 rfl rfl rfl rfl ?_
   refine vp ?_
   refine vp ?_
   refine vc_guardF 26 rfl rfl rfl rfl ?_
   refine vc_guardF 26 rfl rfl rfl rfl ?_
   refine vc_guardF 26 rfl rfl rfl rfl ?_
   refine vp ?_
   refine vp ?_
   refine vc_guardF 31 rfl rfl rfl rfl ?_
   refine vc_guardF 31 rfl rfl rfl rfl ?_
   refine vc_guardF 31 rfl rfl rfl rfl ?_
   refine vp ?_
   refine vp ?_
   refine vc_nil ?_
   refine vc_then ?_
   refine vc_ret ?_
   exact vc_end1 Tryz.results31 rfl _ (ent_pick [0] rfl) ⟨by simp [setRight, *], rfl⟩
 ·skip
  refine vc_guardF 6 rfl rfl rfl rfl ?_
  refine vc_guardF 6 rfl rfl rfl rfl ?_
  refine vc_guardF 6 rfl rfl rfl rfl ?_
  refine vp ?_
  refine vp ?_
  refine vc_guardF 11 rfl rfl rfl rfl ?_
  refine vc_guardF 11 rfl rfl rfl rfl ?_
  refine vc_guardF 11 rfl rfl rfl rfl ?_
  refine vp ?_
  refine vp ?_
  refine vc_guardF 16 rfl rfl rfl rfl ?_
  refine vc_guardF 16 rfl rfl rfl rfl ?_
  refine vc_guardF 16 rfl rfl rfl rfl ?_
  refine vp ?_
  refine vp ?_
  refine vc_guardF 21 rfl rfl rfl rfl ?_
  refine vc_guardF 21 rfl rfl rfl rfl ?_
  refine vc_guardF 21 rfl rfl rfl rfl ?_
  refine vp ?_
  refine vp ?_
  refine vc_guardF 26 rfl rfl rfl rfl ?_
  refine vc_guardF 26 rfl rfl rfl rfl ?_
  refine vc_guardF 26 rfl rfl rfl rfl ?_
  refine vp ?_
  refine vp ?_
  refine vc_guardF 31 rfl rfl rfl rfl ?_
  refine vc_guardF 31 rfl rfl rfl rfl ?_
  refine vc_guardF 31 rfl rfl rfl rfl ?_
  refine vp ?_
  refine vp ?_
  refine vc_nil ?_
  refine vc_then ?_
  refine vc_ret ?_
  exact vc_end1 Tryz.results31 rfl _ (ent_pick [0] rfl) ⟨by simp [setRight, *], rfl⟩
theorem rfSweep {b : Nat} {K : RfK} {hO : SH} {T : List On} {bg : Int} {hS : SH} {L : List Int} {X : RmX} (H : RfH X K T bg L) : Does Tryz.prog 69 [.pointer (some ⟨b, 0, none⟩)] (RfL b K hO T ++ [RgP K.bG K.ring bg hS, Sl eU64 hS L]) (fun v l => v = .int .i64 (versM X.M - versM (sweepM X.M X.R.floor)) ∧ ∃ hO' T', RfH (swX X) K T' bg L ∧ l = RfL b K hO' T' ++ [RgP K.bG K.ring bg hS, Sl eU64 hS L]) := by
 refine spec_of Tryz.func69 rfl Tryz.ntmps69 Tryz.results69 _ (by simp) fun ι F => ?_
 have hq := H.hq
 have hT := H.ok.tok H.m
 have hb3 := hT.n
 have hfl := H.floor
 have hvs := hT.vers
 refine vc_see 1 rfl (RoSl.vis.imp fun w r => r.len) (fun hlen => ?_)
 refine vc_seq ?_
 refine vc_region ?_
 refine vp ?_
 refine vc_nil ?_
 refine vc_then ?_
 refine vc_seq ?_
 refine vc_region ?_
 refine vp ?_
 refine vc_callv ca_91 (us := []) (vs := []) rfl [_] rfl [0, 0, 0] rfl (rfVers hT) rfl ?_
 rintro _ _ ⟨rfl, rfl⟩
 refine vp ?_
 refine vc_nil ?_
 refine vc_then ?_
 refine vc_seq ?_
 refine vc_region ?_
 refine vc_buildSlice (E := eOne) [] [] rfl rfl (bs_65_0  ) rfl (fun h9 => ?_)
 refine vp ?_
 refine vc_nil ?_
 refine vc_then ?_
 refine vc_seq ?_
 refine vc_seq ?_
 refine vc_region ?_
 refine vc_ent (l' := RoM [] :: _) (Ent.empL.trans (Ent.sep RoM.nil Ent.rfl)) ?_
 refine vp ?_
 refine vc_nil ?_
 refine vc_then ?_
 refine vc_block ?_
 refine vc_loop (α := Nat × SH × List On) (fun xq_ => match xq_ with | (i, hh, U) => [(0, .pointer (some ⟨b, 0, none⟩)), (3, .int .i64 (versM (mpT T))), (4, hh.v), (5, .int .i64 (i : Int))]) (fun xq_ => match xq_ with | (i, hh, U) => RfL b K hO T ++ [RgP K.bG K.ring bg hS, Sl eU64 hS L] ++ [Sl eOne hh U, RoM U]) (fun xq_ => match xq_ with | (i, hh, U) => T.length - i) (fun xq_ => match xq_ with | (i, hh, U) => i ≤ T.length ∧ mpT U = sweepM (mpT (T.take i)) X.R.floor ∧ U.length ≤ i) (0, h9, []) ⟨Nat.zero_le _, rfl, Nat.le_refl _⟩ ⟨rfl, rfl, rfl, rfl, trivial⟩ (ent_pick [2, 2, 2, 2, 2, 1, 0] rfl) ?_
 rintro ⟨i, hh, U⟩ ⟨hi, hst, hul⟩
 show VC _ _ _ _ [(0, .pointer (some ⟨b, 0, none⟩)), (3, .int .i64 (versM (mpT T))), (4, hh.v), (5, .int .i64 (i : Int))] (RfL b K hO T ++ [RgP K.bG K.ring bg hS, Sl eU64 hS L] ++ [Sl eOne hh U, RoM U])
 refine vc_seq ?_
 refine vc_seq ?_
 refine vc_region ?_
 iterate 3 refine vp ?_
 refine vc_y (y_fieldP fl_67_2 5 rfl rfl) rfl ?_
 refine vc_y (y_load1 0 rfl one_65 rfl (Pts.vis rfl)) rfl ?_
 refine vc_y (y_len Tryz.underlying65 rfl (by first | assumption | rfl)) rfl ?_
 refine vp ?_
 refine vc_nil ?_
 refine vc_then ?_
 first | refine vc_condP rfl (fun c16 => ?_) (fun c16 => ?_) | refine vc_condN rfl (fun c16 => ?_) (fun c16 => ?_) | refine vc_cond rfl (fun c16 => ?_) (fun c16 => ?_)
 ·skip
  have hi2 : i < T.length := by omega
  have hsn : sweepM (mpT (T.take (i + 1))) X.R.floor = sweepM (mpT (T.take i)) X.R.floor ++ (match sw1 X.R.floor (T[i].1, T[i].2.2) with | some q => [q] | none => []) := by rw [List.take_succ_eq_append_getElem hi2, mpT_append]; exact sweep_snoc _ _ _
  refine vc_skip ?_
  refine vc_then ?_
  refine vc_seq ?_
  refine vc_block ?_
  refine vc_seq ?_
  refine vc_draw (by kernel_rfl) _ none [0, 0, 0] rfl ?_
  refine tpp 0 ?_
  refine tpp 1 ?_
  refine tp 2 rfl (by exact y_fieldP fl_67_2 5 rfl rfl) ?_
  refine tk 3 rfl (by exact y_load1 0 rfl one_65 rfl (Pts.vis rfl)) ?_
  refine tpp 4 ?_
  refine tk 5 rfl (by exact y_elem 1 rfl (RoSl.vis) i rfl hi2 sl_65 rfl rfl) ?_
  refine tp 6 rfl (by exact y_fieldE fl_152_1 1 rfl rfl) ?_
  refine tk 7 rfl (by exact y_load1 1 rfl one_138 rfl (Rd.vis1 (RoSl.vis) (List.getElem?_eq_getElem (by first | assumption | omega)) rfl)) ?_
  refine tpp 8 ?_
  refine va_ready [9] (by kernel_rfl) rfl ?_
  refine vo_cons rfl (fun hC0 => ?_) ?_
  ·skip
   refine vc_callv ca_90 (us := []) (vs := []) rfl [_] rfl [0, 2, 2] rfl (Does.re (rfFloor hq (by rw [H.ring]; exact H.ok.r1)) (show _ = Value.int .i64 X.R.floor by rw [hfl])) rfl ?_
   rintro _ _ ⟨rfl, rfl⟩
   refine vc_nil ?_
   refine vc_then ?_
   refine va_kept hC0 [0, 2, 2] rfl ?_
   clear hC0
   refine va_ready [10] (by kernel_rfl) rfl ?_
   refine vo_cons rfl (fun hC0 => ?_) ?_
   ·skip
    refine vc_callv ca_119 (us := []) (vs := []) rfl [_, _] rfl [4] rfl (refSweep_spec (RoM.vis (List.getElem_mem hi2)) (by have := hT.len _ (List.getElem_mem hi2); omega) (hT.c _ (List.getElem_mem hi2)) X.R.floor) rfl ?_
    rintro _ _ ⟨g, rfl, rfl⟩
    refine vc_nil ?_
    refine vc_then ?_
    refine va_kept hC0 [2, 4, 1] rfl ?_
    clear hC0
    refine tpp 11 ?_
    refine va_done (by kernel_rfl) ?_
    refine vc_then ?_
    refine vc_seq ?_
    refine vc_region ?_
    refine vc_see 0 rfl (Sl.vis.imp fun w r => r.len) (fun hlg => ?_)
    refine vp ?_
    refine vc_y (y_len Tryz.underlying138 rfl (by first | assumption | rfl)) rfl ?_
    refine vp ?_
    refine vc_nil ?_
    refine vc_then ?_
    first | refine vc_condP rfl (fun c32 => ?_) (fun c32 => ?_) | refine vc_condN rfl (fun c32 => ?_) (fun c32 => ?_) | refine vc_cond rfl (fun c32 => ?_) (fun c32 => ?_)
    ·skip
     have hne : ¬ (verSweep T[i].2.2 X.R.floor).isEmpty = true := by
      intro h0
      rw [List.isEmpty_iff] at h0
      rw [h0] at c32
      simp at c32
     refine vc_region ?_
     iterate 3 refine vp ?_
     refine vc_y (y_fieldP fl_67_2 5 rfl rfl) rfl ?_
     refine vc_y (y_load1 2 rfl one_65 rfl (Pts.vis rfl)) rfl ?_
     refine vp ?_
     refine vc_y (y_elem 5 rfl (RoSl.vis) i rfl hi2 sl_65 rfl rfl) rfl ?_
     refine vc_y (y_fieldE fl_152_0 0 rfl rfl) rfl ?_
     refine vc_y (y_load1 5 rfl one_9 rfl (Rd.vis1 (RoSl.vis) (List.getElem?_eq_getElem (by first | assumption | omega)) rfl)) rfl ?_
     refine vp ?_
     refine vc_y (y_build [(0, _), (1, _)] [_, _] rfl (bu_152_0_1 _ _ rfl rfl)) rfl ?_
     refine vc_buildSlice (E := eOne) [(0, _)] [(T[i].1, g, verSweep T[i].2.2 X.R.floor)] rfl rfl (bs_65_1 _ _ ) rfl (fun h44 => ?_)
     refine vc_append 7 rfl 0 rfl (Sl.vis) el_65_eOne Tryz.underlying65 rfl rfl (by simp; omega) (by simp; omega) rfl (fun h45 => ?_)
     refine vc_turn 1 rfl (RoSl eVer g (verSweep T[i].2.2 X.R.floor)) Sl.share ?_
     refine vc_ent (ent_at [1, 7, 0, 0, 0, 0, 0, 0, 0] rfl (RoM.new (k := T[i].1))) ?_
     refine vp ?_
     refine vc_nil ?_
     refine vc_inNormal ?_
     refine vc_then ?_
     refine vc_region ?_
     refine vp ?_
     first | refine vc_y (y_arith _ rfl (wrapNadd (by omega))) rfl ?_ | refine vc_y (y_arith _ rfl (wrap64 (by omega) (by omega))) rfl ?_ | refine vp ?_
     refine vp ?_
     refine vc_nil ?_
     refine vc_then ?_
     first | exact vc_again (x := (i, hh, U)) (i + 1, h45, U ++ [(T[i].1, g, verSweep T[i].2.2 X.R.floor)]) ⟨hi2, by rw [hsn, mpT_append, hst]; unfold sw1; rw [if_neg hne]; rfl, by simp; omega⟩ (by show T.length - (i + 1) < T.length - i; omega) ⟨rfl, rfl, rfl, rfl, trivial⟩ (ent_pick [3, 5, 2, 2, 2, 2, 0] rfl) | exact vc_again (x := (i, hh, U)) (i + 1, hh, U) ⟨hi2, by rw [hsn, hst]; unfold sw1; rw [if_pos hne]; simp, by omega⟩ (by show T.length - (i + 1) < T.length - i; omega) ⟨rfl, rfl, rfl, rfl, trivial⟩ (ent_pick [3, 5, 2, 2, 2, 2, 0] rfl)
    ·skip
     have hne : (verSweep T[i].2.2 X.R.floor).isEmpty = true := by
      rw [List.isEmpty_iff]
      exact List.length_eq_zero_iff.1 (by omega)
     refine vc_skip ?_
     refine vc_inNormal ?_
     refine vc_then ?_
     refine vc_region ?_
     refine vp ?_
     first | refine vc_y (y_arith _ rfl (wrapNadd (by omega))) rfl ?_ | refine vc_y (y_arith _ rfl (wrap64 (by omega) (by omega))) rfl ?_ | refine vp ?_
     refine vp ?_
     refine vc_nil ?_
     refine vc_then ?_
     first | exact vc_again (x := (i, hh, U)) (i + 1, h45, U ++ [(T[i].1, g, verSweep T[i].2.2 X.R.floor)]) ⟨hi2, by rw [hsn, mpT_append, hst]; unfold sw1; rw [if_neg hne]; rfl, by simp; omega⟩ (by show T.length - (i + 1) < T.length - i; omega) ⟨rfl, rfl, rfl, rfl, trivial⟩ (ent_pick [2, 4, 1, 1, 1, 1, 1] rfl) | exact vc_again (x := (i, hh, U)) (i + 1, hh, U) ⟨hi2, by rw [hsn, hst]; unfold sw1; rw [if_pos hne]; simp, by omega⟩ (by show T.length - (i + 1) < T.length - i; omega) ⟨rfl, rfl, rfl, rfl, trivial⟩ (ent_pick [2, 4, 1, 1, 1, 1, 1] rfl)
   exact vo_nil
  exact vo_nil
 ·skip
  obtain rfl : i = T.length := by omega
  rw [List.take_length, H.m] at hst
  refine vc_exit ?_
  refine vc_thenExit ?_
  refine vc_thenExit ?_
  refine vc_inExit ?_
  refine vc_then ?_
  refine vc_seq ?_
  refine vc_region ?_
  refine vc_turn 5 rfl (RoSl eOne _ _) Sl.share ?_
  have hTU := H.ok.sweep.tok (T := U) hst
  have hvu := hTU.vers
  have hbu := hTU.n
  iterate 3 refine vp ?_
  refine vc_y (y_fieldP fl_67_2 5 rfl rfl) rfl ?_
  refine vc_storeP 0 rfl [_] [_, _, _, _, _, _] rfl rfl rfl sz_65 rfl rfl rfl ?_
  refine vc_nil ?_
  refine vc_then ?_
  refine vc_seq ?_
  refine vc_region ?_
  refine vp ?_
  refine vp ?_
  refine vc_callv ca_91 (us := []) (vs := []) rfl [_] rfl [0, 4, 4] rfl (rfVers hTU) rfl ?_
  rintro _ _ ⟨rfl, rfl⟩
  refine vc_y (y_arith _ rfl (wrap64 (by omega) (by omega))) rfl ?_
  refine vp ?_
  refine vc_nil ?_
  refine vc_then ?_
  refine vc_ret ?_
  exact vc_end1 Tryz.results69 rfl _ (ent_pick [0, 0, 0, 2, 2] rfl) ⟨by rw [H.m, hst], _, U, ⟨H.ok.sweep, H.ring, H.quota, H.most, hst, H.g, H.bg⟩, rfl⟩
end Go.Proofs.YtcpbibdbahfgaaaGreat
namespace Go.Proofs.YtcpbibdbahfgaaaGreat
open Go.Eng
namespace FRef8
theorem sz_56 : (Tryz.prog.info? 56).map (·.size) = some 5 := by kernel_rfl
theorem ze_56 : (Tryz.prog.info? 56).map (·.zero) = some (some (.agg #[.string ⟨#[]⟩, .int .i64 0, .bool false, .string ⟨#[]⟩, .int .u64 0])) := by kernel_rfl
theorem bs_52_0   (w : World) : (Instr.buildSlice 52 0 #[]).run Tryz.prog w = .ok (.slice (some ⟨w.heap.size, 0, none⟩) 0 0) { w with heap := w.heap.push (.cells #[] 56 (0, 0)) } :=
 Go.Eng.run_buildSlice Tryz.underlying52 sz_56 ze_56 (by decide) (by rw [show Array.range (0 * 5) = #[] from by decide]; simp [Instr.fill, cells_agg]) w
theorem fl_67_2 : Fld Tryz.prog 67 2 5 := ⟨_, _, 0, Tryz.underlying67, rfl, rfl, by kernel_rfl⟩
theorem one_65 : TyOne Tryz.prog 65 := ⟨⟨_, Tryz.underlying65, rfl⟩, by kernel_rfl⟩
theorem sl_65 : TySl Tryz.prog 65 152 2 := ⟨Tryz.underlying65, by kernel_rfl⟩
theorem fl_152_1 : Fld Tryz.prog 152 1 1 := ⟨_, _, 0, Tryz.underlying152, rfl, rfl, by kernel_rfl⟩
theorem one_138 : TyOne Tryz.prog 138 := ⟨⟨_, Tryz.underlying138, rfl⟩, by kernel_rfl⟩
theorem ca_37 : Callable Tryz.prog 37 := ⟨_, _, Tryz.func37, rfl, rfl⟩
theorem ca_96 : Callable Tryz.prog 96 := ⟨_, _, Tryz.func96, rfl, rfl⟩
theorem ze_135 : (Tryz.prog.info? 135).map (·.zero) = some (some (.agg #[.int .i64 0, .bool false, .bool false, .string ⟨#[]⟩, .int .u64 0])) := by kernel_rfl
theorem sz_135 : (Tryz.prog.info? 135).map (·.size) = some 5 := by kernel_rfl
theorem fl_152_0 : Fld Tryz.prog 152 0 0 := ⟨_, _, 0, Tryz.underlying152, rfl, rfl, by kernel_rfl⟩
theorem one_9 : TyOne Tryz.prog 9 := ⟨⟨_, Tryz.underlying9, rfl⟩, by kernel_rfl⟩
theorem fl_135_0 : Fld Tryz.prog 135 0 0 := ⟨_, _, 0, Tryz.underlying135, rfl, rfl, by kernel_rfl⟩
theorem one_3 : TyOne Tryz.prog 3 := ⟨⟨_, Tryz.underlying3, rfl⟩, by kernel_rfl⟩
theorem fl_135_2 : Fld Tryz.prog 135 2 2 := ⟨_, _, 2, Tryz.underlying135, rfl, rfl, by kernel_rfl⟩
theorem ag_45 : TyAgg Tryz.prog 45 3 := ⟨⟨_, Tryz.underlying45, rfl⟩, by kernel_rfl⟩
theorem bu_56_0_1_2 (v0 : Value) (v1 : Value) (v2_0 v2_1 v2_2 : Value) (h0 : v0.cells = #[v0]) (h1 : v1.cells = #[v1]) (w : World) : (Instr.build 56 #[(0, v0), (1, v1), (2, .agg #[v2_0, v2_1, v2_2])]).run Tryz.prog w = .ok (.agg #[v0, v1, v2_0, v2_1, v2_2]) w := by
 have hz := @ze_56
 exact Go.Eng.run_build (pl := [(0, 1), (1, 1), (2, 3)]) hz Tryz.underlying56 (by kernel_rfl) rfl (by simp [Instr.fill, h0, h1, cells_agg]) w
theorem bs_52_1 (v0_0 v0_1 v0_2 v0_3 v0_4 : Value)  (w : World) : (Instr.buildSlice 52 1 #[(0, .agg #[v0_0, v0_1, v0_2, v0_3, v0_4])]).run Tryz.prog w = .ok (.slice (some ⟨w.heap.size, 0, none⟩) 1 1) { w with heap := w.heap.push (.cells #[v0_0, v0_1, v0_2, v0_3, v0_4] 56 (0, 0)) } :=
 Go.Eng.run_buildSlice Tryz.underlying52 sz_56 ze_56 (by decide) (by rw [show Array.range (1 * 5) = #[0, 1, 2, 3, 4] from by decide]; simp [Instr.fill, cells_agg]) w
theorem el_52_eEn : TyEl Tryz.prog 52 eEn 56 := ⟨Tryz.underlying52, .agg #[.string ⟨#[]⟩, .int .i64 0, .bool false, .string ⟨#[]⟩, .int .u64 0], by kernel_rfl, rfl⟩
end FRef8
open FRef8
theorem rfEnt {b : Nat} {K : RfK} {hO : SH} {T : List On} {bg : Int} {hS : SH} {L : List Int} {X : RmX} (H : RfH X K T bg L) : Does Tryz.prog 92 [.pointer (some ⟨b, 0, none⟩)] (RfL b K hO T ++ [RgP K.bG K.ring bg hS, Sl eU64 hS L]) (fun v l => ∃ h', v = h'.v ∧ l = RfL b K hO T ++ [RgP K.bG K.ring bg hS, Sl eU64 hS L] ++ [Sl eEn h' (entM X.M X.R.seq)]) := by
 refine spec_of Tryz.func92 rfl Tryz.ntmps92 Tryz.results92 _ (by simp) fun ι F => ?_
 have hq := H.hq
 have hsq := H.seq
 have hT := H.ok.tok H.m
 have hb3 := hT.n
 refine vc_see 1 rfl (RoSl.vis.imp fun w r => r.len) (fun hlen => ?_)
 refine vc_seq ?_
 refine vc_region ?_
 refine vp ?_
 refine vc_nil ?_
 refine vc_then ?_
 refine vc_seq ?_
 refine vc_region ?_
 refine vc_buildSlice (E := eEn) [] [] rfl rfl (bs_52_0  ) rfl (fun h7 => ?_)
 refine vp ?_
 refine vc_nil ?_
 refine vc_then ?_
 refine vc_seq ?_
 refine vc_seq ?_
 refine vc_region ?_
 refine vp ?_
 refine vc_nil ?_
 refine vc_then ?_
 refine vc_block ?_
 refine vc_loop (α := Nat × SH × List En) (fun xq_ => match xq_ with | (i, hh, es) => [(0, .pointer (some ⟨b, 0, none⟩)), (3, hh.v), (4, .int .i64 (i : Int))]) (fun xq_ => match xq_ with | (i, hh, es) => RfL b K hO T ++ [RgP K.bG K.ring bg hS, Sl eU64 hS L] ++ [Sl eEn hh es]) (fun xq_ => match xq_ with | (i, hh, es) => T.length - i) (fun xq_ => match xq_ with | (i, hh, es) => i ≤ T.length ∧ es = entM (mpT (T.take i)) X.R.seq ∧ es.length ≤ i) (0, h7, []) ⟨Nat.zero_le _, rfl, Nat.le_refl _⟩ ⟨rfl, rfl, rfl, trivial⟩ (ent_pick [1, 1, 1, 1, 1, 0] rfl) ?_
 rintro ⟨i, hh, es⟩ ⟨hi, hst, hul⟩
 show VC _ _ _ _ [(0, .pointer (some ⟨b, 0, none⟩)), (3, hh.v), (4, .int .i64 (i : Int))] (RfL b K hO T ++ [RgP K.bG K.ring bg hS, Sl eU64 hS L] ++ [Sl eEn hh es])
 refine vc_seq ?_
 refine vc_seq ?_
 refine vc_region ?_
 iterate 3 refine vp ?_
 refine vc_y (y_fieldP fl_67_2 5 rfl rfl) rfl ?_
 refine vc_y (y_load1 0 rfl one_65 rfl (Pts.vis rfl)) rfl ?_
 refine vc_y (y_len Tryz.underlying65 rfl (by first | assumption | rfl)) rfl ?_
 refine vp ?_
 refine vc_nil ?_
 refine vc_then ?_
 first | refine vc_condP rfl (fun c14 => ?_) (fun c14 => ?_) | refine vc_condN rfl (fun c14 => ?_) (fun c14 => ?_) | refine vc_cond rfl (fun c14 => ?_) (fun c14 => ?_)
 ·skip
  have hi2 : i < T.length := by omega
  have hsn : entM (mpT (T.take (i + 1))) X.R.seq = entM (mpT (T.take i)) X.R.seq ++ (match verAt T[i].2.2 X.R.seq with | some v => [⟨T[i].1, v.seq, v.val⟩] | none => []) := by rw [List.take_succ_eq_append_getElem hi2, mpT_append]; exact ent_snoc _ _ _
  refine vc_skip ?_
  refine vc_then ?_
  refine vc_seq ?_
  refine vc_block ?_
  refine vc_seq ?_
  refine vc_draw (by kernel_rfl) _ (some 15) [0, 0, 0] rfl ?_
  refine tpp 0 ?_
  refine tpp 1 ?_
  refine tp 2 rfl (by exact y_fieldP fl_67_2 5 rfl rfl) ?_
  refine tk 3 rfl (by exact y_load1 0 rfl one_65 rfl (Pts.vis rfl)) ?_
  refine tpp 4 ?_
  refine tk 5 rfl (by exact y_elem 1 rfl (RoSl.vis) i rfl hi2 sl_65 rfl rfl) ?_
  refine tp 6 rfl (by exact y_fieldE fl_152_1 1 rfl rfl) ?_
  refine tk 7 rfl (by exact y_load1 1 rfl one_138 rfl (Rd.vis1 (RoSl.vis) (List.getElem?_eq_getElem (by first | assumption | omega)) rfl)) ?_
  refine tpp 8 ?_
  refine va_ready [9, 14] (by kernel_rfl) rfl ?_
  refine vo_cons rfl (fun hC0 => ?_) ?_
  ·skip
   refine vc_callv ca_37 (us := []) (vs := []) rfl [_] rfl [0, 2, 2] rfl (Does.re (rfSeq hq) (show _ = Value.int .i64 X.R.seq by rw [hsq])) rfl ?_
   rintro _ _ ⟨rfl, rfl⟩
   refine vc_nil ?_
   refine vc_then ?_
   refine va_kept hC0 [0, 2, 2] rfl ?_
   clear hC0
   refine va_ready [10, 14] (by kernel_rfl) rfl ?_
   refine vo_cons rfl (fun hC0 => ?_) ?_
   ·skip
    refine vc_callv ca_96 (us := []) (vs := []) rfl [_, _] rfl [4] rfl (refAt_spec (RoM.vis (List.getElem_mem hi2)) (by have := hT.len _ (List.getElem_mem hi2); omega) (hT.c _ (List.getElem_mem hi2)) X.R.seq) rfl ?_
    rintro _ _ ⟨rfl, rfl⟩
    refine vc_nil ?_
    refine vc_then ?_
    refine va_kept hC0 [1, 3, 0] rfl ?_
    clear hC0
    refine tpp 11 ?_
    refine tpp 12 ?_
    refine tpp 13 ?_
    refine va_ready [14] (by kernel_rfl) rfl ?_
    refine vo_cons rfl (fun hC0 => ?_) ?_
    ·skip
     refine vc_alloc [.int .i64 0, .bool false, .bool false, .string ⟨#[]⟩, .int .u64 0] ze_135 rfl rfl (fun b5 => ?_)
     refine vc_nil ?_
     refine vc_then ?_
     refine va_kept hC0 [2, 4, 1] rfl ?_
     clear hC0
     refine va_ready [15] (by kernel_rfl) rfl ?_
     refine vo_cons rfl (fun hC0 => ?_) ?_
     ·skip
      refine vc_storeP 0 rfl [_, _, _, _, _] [_, _, _, _, _] rfl rfl rfl sz_135 rfl rfl rfl ?_
      refine vc_nil ?_
      refine vc_then ?_
      refine va_gone hC0 (by kernel_rfl) ?_
      clear hC0
      refine va_ready [16] (by kernel_rfl) rfl ?_
      refine vo_cons rfl (fun hC0 => ?_) ?_
      ·skip
       refine vp ?_
       refine vc_nil ?_
       refine vc_then ?_
       refine va_gone hC0 (by kernel_rfl) ?_
       clear hC0
       refine va_done (by kernel_rfl) ?_
       refine vc_then ?_
       refine vc_seq ?_
       refine vc_region ?_
       refine vp ?_
       refine vc_nil ?_
       refine vc_then ?_
       first | refine vc_condP rfl (fun c31 => ?_) (fun c31 => ?_) | refine vc_condN rfl (fun c31 => ?_) (fun c31 => ?_) | refine vc_cond rfl (fun c31 => ?_) (fun c31 => ?_)
       ·skip
        obtain ⟨x, hx⟩ : ∃ x, verAt T[i].2.2 X.R.seq = some x := by
         cases h0 : verAt T[i].2.2 X.R.seq with
         | none => rw [h0] at c31; cases c31
         | some x => exact ⟨x, rfl⟩
        rw [hx]
        refine vc_draw (by kernel_rfl) _ none [2, 4, 1, 0] rfl ?_
        refine tpp 0 ?_
        refine tpp 1 ?_
        refine tpp 2 ?_
        refine tp 3 rfl (by exact y_fieldP fl_67_2 5 rfl rfl) ?_
        refine tk 4 rfl (by exact y_load1 0 rfl one_65 rfl (Pts.vis rfl)) ?_
        refine tpp 5 ?_
        refine tk 6 rfl (by exact y_elem 1 rfl (RoSl.vis) i rfl hi2 sl_65 rfl rfl) ?_
        refine tp 7 rfl (by exact y_fieldE fl_152_0 0 rfl rfl) ?_
        refine tk 8 rfl (by exact y_load1 1 rfl one_9 rfl (Rd.vis1 (RoSl.vis) (List.getElem?_eq_getElem (by first | assumption | omega)) rfl)) ?_
        refine tp 9 rfl (by exact y_fieldP fl_135_0 0 rfl rfl) ?_
        refine tk 10 rfl (by exact y_load1 3 rfl one_3 rfl (Pts.vis rfl)) ?_
        refine tp 11 rfl (by exact y_fieldP fl_135_2 2 rfl rfl) ?_
        refine tk 12 rfl (by exact y_loadA 3 rfl (cs := [_, _, _]) ag_45 rfl (Pts.visA rfl)) ?_
        refine tp 13 rfl (by exact y_build [(0, _), (1, _), (2, _)] [_, _, _, _, _] rfl (bu_56_0_1_2 _ _ _ _ _ rfl rfl)) ?_
        refine va_ready [14] (by kernel_rfl) rfl ?_
        refine vo_cons rfl (fun hC0 => ?_) ?_
        ·skip
         refine vc_buildSlice (E := eEn) [(0, _)] [⟨T[i].1, x.seq, x.val⟩] rfl rfl (bs_52_1 _ _ _ _ _ ) rfl (fun h46 => ?_)
         refine vc_nil ?_
         refine vc_then ?_
         refine va_kept hC0 [3, 5, 2, 1] rfl ?_
         clear hC0
         refine va_ready [15] (by kernel_rfl) rfl ?_
         refine vo_cons rfl (fun hC0 => ?_) ?_
         ·skip
          refine vc_append 7 rfl 0 rfl (Sl.vis) el_52_eEn Tryz.underlying52 rfl rfl (by simp; omega) (by simp; omega) rfl (fun h47 => ?_)
          refine vc_nil ?_
          refine vc_then ?_
          refine va_kept hC0 [3, 5, 2, 1] rfl ?_
          clear hC0
          refine tpp 16 ?_
          refine va_done (by kernel_rfl) ?_
          refine vc_inNormal ?_
          refine vc_then ?_
          refine vc_region ?_
          refine vp ?_
          first | refine vc_y (y_arith _ rfl (wrapNadd (by omega))) rfl ?_ | refine vc_y (y_arith _ rfl (wrap64 (by omega) (by omega))) rfl ?_ | refine vp ?_
          refine vp ?_
          refine vc_nil ?_
          refine vc_then ?_
          first | exact vc_again (x := (i, hh, es)) (i + 1, h47, es ++ [⟨T[i].1, x.seq, x.val⟩]) ⟨hi2, by rw [hsn, hx, hst], by simp; omega⟩ (by show T.length - (i + 1) < T.length - i; omega) ⟨rfl, rfl, rfl, trivial⟩ (ent_pick [3, 5, 2, 2, 2, 2] rfl) | exact vc_again (x := (i, hh, es)) (i + 1, hh, es) ⟨hi2, by rw [hsn, hx, hst]; simp, by omega⟩ (by show T.length - (i + 1) < T.length - i; omega) ⟨rfl, rfl, rfl, trivial⟩ (ent_pick [3, 5, 2, 2, 2, 2] rfl)
         exact vo_nil
        exact vo_nil
       ·skip
        have hx : verAt T[i].2.2 X.R.seq = none := by
         cases h0 : verAt T[i].2.2 X.R.seq with
         | none => rfl
         | some x => rw [h0] at c31; cases c31
        refine vc_skip ?_
        refine vc_inNormal ?_
        refine vc_then ?_
        refine vc_region ?_
        refine vp ?_
        first | refine vc_y (y_arith _ rfl (wrapNadd (by omega))) rfl ?_ | refine vc_y (y_arith _ rfl (wrap64 (by omega) (by omega))) rfl ?_ | refine vp ?_
        refine vp ?_
        refine vc_nil ?_
        refine vc_then ?_
        first | exact vc_again (x := (i, hh, es)) (i + 1, h47, es ++ [⟨T[i].1, x.seq, x.val⟩]) ⟨hi2, by rw [hsn, hx, hst], by simp; omega⟩ (by show T.length - (i + 1) < T.length - i; omega) ⟨rfl, rfl, rfl, trivial⟩ (ent_pick [2, 4, 1, 1, 1, 1] rfl) | exact vc_again (x := (i, hh, es)) (i + 1, hh, es) ⟨hi2, by rw [hsn, hx, hst]; simp, by omega⟩ (by show T.length - (i + 1) < T.length - i; omega) ⟨rfl, rfl, rfl, trivial⟩ (ent_pick [2, 4, 1, 1, 1, 1] rfl)
      exact vo_nil
     exact vo_nil
    exact vo_nil
   refine vo_cons rfl (fun hC0 => ?_) ?_
   ·skip
    refine vc_alloc [.int .i64 0, .bool false, .bool false, .string ⟨#[]⟩, .int .u64 0] ze_135 rfl rfl (fun b5 => ?_)
    refine vc_nil ?_
    refine vc_then ?_
    refine va_kept hC0 [1, 3, 3] rfl ?_
    clear hC0
    refine va_ready [10] (by kernel_rfl) rfl ?_
    refine vo_cons rfl (fun hC0 => ?_) ?_
    ·skip
     refine vc_callv ca_96 (us := []) (vs := []) rfl [_, _] rfl [5] rfl (refAt_spec (RoM.vis (List.getElem_mem hi2)) (by have := hT.len _ (List.getElem_mem hi2); omega) (hT.c _ (List.getElem_mem hi2)) X.R.seq) rfl ?_
     rintro _ _ ⟨rfl, rfl⟩
     refine vc_nil ?_
     refine vc_then ?_
     refine va_kept hC0 [2, 4, 0] rfl ?_
     clear hC0
     refine tpp 11 ?_
     refine tpp 12 ?_
     refine tpp 13 ?_
     refine va_ready [15] (by kernel_rfl) rfl ?_
     refine vo_cons rfl (fun hC0 => ?_) ?_
     ·skip
      refine vc_storeP 1 rfl [_, _, _, _, _] [_, _, _, _, _] rfl rfl rfl sz_135 rfl rfl rfl ?_
      refine vc_nil ?_
      refine vc_then ?_
      refine va_gone hC0 (by kernel_rfl) ?_
      clear hC0
      refine va_ready [16] (by kernel_rfl) rfl ?_
      refine vo_cons rfl (fun hC0 => ?_) ?_
      ·skip
       refine vp ?_
       refine vc_nil ?_
       refine vc_then ?_
       refine va_gone hC0 (by kernel_rfl) ?_
       clear hC0
       refine va_done (by kernel_rfl) ?_
       refine vc_then ?_
       refine vc_seq ?_
       refine vc_region ?_
       refine vp ?_
       refine vc_nil ?_
       refine vc_then ?_
       first | refine vc_condP rfl (fun c31 => ?_) (fun c31 => ?_) | refine vc_condN rfl (fun c31 => ?_) (fun c31 => ?_) | refine vc_cond rfl (fun c31 => ?_) (fun c31 => ?_)
       ·skip
        obtain ⟨x, hx⟩ : ∃ x, verAt T[i].2.2 X.R.seq = some x := by
         cases h0 : verAt T[i].2.2 X.R.seq with
         | none => rw [h0] at c31; cases c31
         | some x => exact ⟨x, rfl⟩
        rw [hx]
        refine vc_draw (by kernel_rfl) _ none [2, 4, 0, 0] rfl ?_
        refine tpp 0 ?_
        refine tpp 1 ?_
        refine tpp 2 ?_
        refine tp 3 rfl (by exact y_fieldP fl_67_2 5 rfl rfl) ?_
        refine tk 4 rfl (by exact y_load1 0 rfl one_65 rfl (Pts.vis rfl)) ?_
        refine tpp 5 ?_
        refine tk 6 rfl (by exact y_elem 1 rfl (RoSl.vis) i rfl hi2 sl_65 rfl rfl) ?_
        refine tp 7 rfl (by exact y_fieldE fl_152_0 0 rfl rfl) ?_
        refine tk 8 rfl (by exact y_load1 1 rfl one_9 rfl (Rd.vis1 (RoSl.vis) (List.getElem?_eq_getElem (by first | assumption | omega)) rfl)) ?_
        refine tp 9 rfl (by exact y_fieldP fl_135_0 0 rfl rfl) ?_
        refine tk 10 rfl (by exact y_load1 3 rfl one_3 rfl (Pts.vis rfl)) ?_
        refine tp 11 rfl (by exact y_fieldP fl_135_2 2 rfl rfl) ?_
        refine tk 12 rfl (by exact y_loadA 3 rfl (cs := [_, _, _]) ag_45 rfl (Pts.visA rfl)) ?_
        refine tp 13 rfl (by exact y_build [(0, _), (1, _), (2, _)] [_, _, _, _, _] rfl (bu_56_0_1_2 _ _ _ _ _ rfl rfl)) ?_
        refine va_ready [14] (by kernel_rfl) rfl ?_
        refine vo_cons rfl (fun hC0 => ?_) ?_
        ·skip
         refine vc_buildSlice (E := eEn) [(0, _)] [⟨T[i].1, x.seq, x.val⟩] rfl rfl (bs_52_1 _ _ _ _ _ ) rfl (fun h46 => ?_)
         refine vc_nil ?_
         refine vc_then ?_
         refine va_kept hC0 [3, 5, 1, 1] rfl ?_
         clear hC0
         refine va_ready [15] (by kernel_rfl) rfl ?_
         refine vo_cons rfl (fun hC0 => ?_) ?_
         ·skip
          refine vc_append 7 rfl 0 rfl (Sl.vis) el_52_eEn Tryz.underlying52 rfl rfl (by simp; omega) (by simp; omega) rfl (fun h47 => ?_)
          refine vc_nil ?_
          refine vc_then ?_
          refine va_kept hC0 [3, 5, 1, 1] rfl ?_
          clear hC0
          refine tpp 16 ?_
          refine va_done (by kernel_rfl) ?_
          refine vc_inNormal ?_
          refine vc_then ?_
          refine vc_region ?_
          refine vp ?_
          first | refine vc_y (y_arith _ rfl (wrapNadd (by omega))) rfl ?_ | refine vc_y (y_arith _ rfl (wrap64 (by omega) (by omega))) rfl ?_ | refine vp ?_
          refine vp ?_
          refine vc_nil ?_
          refine vc_then ?_
          first | exact vc_again (x := (i, hh, es)) (i + 1, h47, es ++ [⟨T[i].1, x.seq, x.val⟩]) ⟨hi2, by rw [hsn, hx, hst], by simp; omega⟩ (by show T.length - (i + 1) < T.length - i; omega) ⟨rfl, rfl, rfl, trivial⟩ (ent_pick [3, 5, 1, 2, 2, 2] rfl) | exact vc_again (x := (i, hh, es)) (i + 1, hh, es) ⟨hi2, by rw [hsn, hx, hst]; simp, by omega⟩ (by show T.length - (i + 1) < T.length - i; omega) ⟨rfl, rfl, rfl, trivial⟩ (ent_pick [3, 5, 1, 2, 2, 2] rfl)
         exact vo_nil
        exact vo_nil
       ·skip
        have hx : verAt T[i].2.2 X.R.seq = none := by
         cases h0 : verAt T[i].2.2 X.R.seq with
         | none => rfl
         | some x => rw [h0] at c31; cases c31
        refine vc_skip ?_
        refine vc_inNormal ?_
        refine vc_then ?_
        refine vc_region ?_
        refine vp ?_
        first | refine vc_y (y_arith _ rfl (wrapNadd (by omega))) rfl ?_ | refine vc_y (y_arith _ rfl (wrap64 (by omega) (by omega))) rfl ?_ | refine vp ?_
        refine vp ?_
        refine vc_nil ?_
        refine vc_then ?_
        first | exact vc_again (x := (i, hh, es)) (i + 1, h47, es ++ [⟨T[i].1, x.seq, x.val⟩]) ⟨hi2, by rw [hsn, hx, hst], by simp; omega⟩ (by show T.length - (i + 1) < T.length - i; omega) ⟨rfl, rfl, rfl, trivial⟩ (ent_pick [2, 4, 0, 1, 1, 1] rfl) | exact vc_again (x := (i, hh, es)) (i + 1, hh, es) ⟨hi2, by rw [hsn, hx, hst]; simp, by omega⟩ (by show T.length - (i + 1) < T.length - i; omega) ⟨rfl, rfl, rfl, trivial⟩ (ent_pick [2, 4, 0, 1, 1, 1] rfl)
      exact vo_nil
     exact vo_nil
    exact vo_nil
   exact vo_nil
  refine vo_cons rfl (fun hC0 => ?_) ?_
  ·skip
   refine vc_alloc [.int .i64 0, .bool false, .bool false, .string ⟨#[]⟩, .int .u64 0] ze_135 rfl rfl (fun b5 => ?_)
   refine vc_nil ?_
   refine vc_then ?_
   refine va_kept hC0 [1, 1, 1] rfl ?_
   clear hC0
   refine va_ready [9] (by kernel_rfl) rfl ?_
   refine vo_cons rfl (fun hC0 => ?_) ?_
   ·skip
    refine vc_callv ca_37 (us := []) (vs := []) rfl [_] rfl [1, 3, 3] rfl (Does.re (rfSeq hq) (show _ = Value.int .i64 X.R.seq by rw [hsq])) rfl ?_
    rintro _ _ ⟨rfl, rfl⟩
    refine vc_nil ?_
    refine vc_then ?_
    refine va_kept hC0 [0, 3, 3] rfl ?_
    clear hC0
    refine va_ready [10] (by kernel_rfl) rfl ?_
    refine vo_cons rfl (fun hC0 => ?_) ?_
    ·skip
     refine vc_callv ca_96 (us := []) (vs := []) rfl [_, _] rfl [5] rfl (refAt_spec (RoM.vis (List.getElem_mem hi2)) (by have := hT.len _ (List.getElem_mem hi2); omega) (hT.c _ (List.getElem_mem hi2)) X.R.seq) rfl ?_
     rintro _ _ ⟨rfl, rfl⟩
     refine vc_nil ?_
     refine vc_then ?_
     refine va_kept hC0 [1, 4, 0] rfl ?_
     clear hC0
     refine tpp 11 ?_
     refine tpp 12 ?_
     refine tpp 13 ?_
     refine va_ready [15] (by kernel_rfl) rfl ?_
     refine vo_cons rfl (fun hC0 => ?_) ?_
     ·skip
      refine vc_storeP 4 rfl [_, _, _, _, _] [_, _, _, _, _] rfl rfl rfl sz_135 rfl rfl rfl ?_
      refine vc_nil ?_
      refine vc_then ?_
      refine va_gone hC0 (by kernel_rfl) ?_
      clear hC0
      refine va_ready [16] (by kernel_rfl) rfl ?_
      refine vo_cons rfl (fun hC0 => ?_) ?_
      ·skip
       refine vp ?_
       refine vc_nil ?_
       refine vc_then ?_
       refine va_gone hC0 (by kernel_rfl) ?_
       clear hC0
       refine va_done (by kernel_rfl) ?_
       refine vc_then ?_
       refine vc_seq ?_
       refine vc_region ?_
       refine vp ?_
       refine vc_nil ?_
       refine vc_then ?_
       first | refine vc_condP rfl (fun c31 => ?_) (fun c31 => ?_) | refine vc_condN rfl (fun c31 => ?_) (fun c31 => ?_) | refine vc_cond rfl (fun c31 => ?_) (fun c31 => ?_)
       ·skip
        obtain ⟨x, hx⟩ : ∃ x, verAt T[i].2.2 X.R.seq = some x := by
         cases h0 : verAt T[i].2.2 X.R.seq with
         | none => rw [h0] at c31; cases c31
         | some x => exact ⟨x, rfl⟩
        rw [hx]
        refine vc_draw (by kernel_rfl) _ none [1, 4, 0, 2] rfl ?_
        refine tpp 0 ?_
        refine tpp 1 ?_
        refine tpp 2 ?_
        refine tp 3 rfl (by exact y_fieldP fl_67_2 5 rfl rfl) ?_
        refine tk 4 rfl (by exact y_load1 0 rfl one_65 rfl (Pts.vis rfl)) ?_
        refine tpp 5 ?_
        refine tk 6 rfl (by exact y_elem 1 rfl (RoSl.vis) i rfl hi2 sl_65 rfl rfl) ?_
        refine tp 7 rfl (by exact y_fieldE fl_152_0 0 rfl rfl) ?_
        refine tk 8 rfl (by exact y_load1 1 rfl one_9 rfl (Rd.vis1 (RoSl.vis) (List.getElem?_eq_getElem (by first | assumption | omega)) rfl)) ?_
        refine tp 9 rfl (by exact y_fieldP fl_135_0 0 rfl rfl) ?_
        refine tk 10 rfl (by exact y_load1 3 rfl one_3 rfl (Pts.vis rfl)) ?_
        refine tp 11 rfl (by exact y_fieldP fl_135_2 2 rfl rfl) ?_
        refine tk 12 rfl (by exact y_loadA 3 rfl (cs := [_, _, _]) ag_45 rfl (Pts.visA rfl)) ?_
        refine tp 13 rfl (by exact y_build [(0, _), (1, _), (2, _)] [_, _, _, _, _] rfl (bu_56_0_1_2 _ _ _ _ _ rfl rfl)) ?_
        refine va_ready [14] (by kernel_rfl) rfl ?_
        refine vo_cons rfl (fun hC0 => ?_) ?_
        ·skip
         refine vc_buildSlice (E := eEn) [(0, _)] [⟨T[i].1, x.seq, x.val⟩] rfl rfl (bs_52_1 _ _ _ _ _ ) rfl (fun h46 => ?_)
         refine vc_nil ?_
         refine vc_then ?_
         refine va_kept hC0 [2, 5, 1, 3] rfl ?_
         clear hC0
         refine va_ready [15] (by kernel_rfl) rfl ?_
         refine vo_cons rfl (fun hC0 => ?_) ?_
         ·skip
          refine vc_append 7 rfl 0 rfl (Sl.vis) el_52_eEn Tryz.underlying52 rfl rfl (by simp; omega) (by simp; omega) rfl (fun h47 => ?_)
          refine vc_nil ?_
          refine vc_then ?_
          refine va_kept hC0 [2, 5, 1, 3] rfl ?_
          clear hC0
          refine tpp 16 ?_
          refine va_done (by kernel_rfl) ?_
          refine vc_inNormal ?_
          refine vc_then ?_
          refine vc_region ?_
          refine vp ?_
          first | refine vc_y (y_arith _ rfl (wrapNadd (by omega))) rfl ?_ | refine vc_y (y_arith _ rfl (wrap64 (by omega) (by omega))) rfl ?_ | refine vp ?_
          refine vp ?_
          refine vc_nil ?_
          refine vc_then ?_
          first | exact vc_again (x := (i, hh, es)) (i + 1, h47, es ++ [⟨T[i].1, x.seq, x.val⟩]) ⟨hi2, by rw [hsn, hx, hst], by simp; omega⟩ (by show T.length - (i + 1) < T.length - i; omega) ⟨rfl, rfl, rfl, trivial⟩ (ent_pick [2, 5, 1, 1, 1, 2] rfl) | exact vc_again (x := (i, hh, es)) (i + 1, hh, es) ⟨hi2, by rw [hsn, hx, hst]; simp, by omega⟩ (by show T.length - (i + 1) < T.length - i; omega) ⟨rfl, rfl, rfl, trivial⟩ (ent_pick [2, 5, 1, 1, 1, 2] rfl)
         exact vo_nil
        exact vo_nil
       ·skip
        have hx : verAt T[i].2.2 X.R.seq = none := by
         cases h0 : verAt T[i].2.2 X.R.seq with
         | none => rfl
         | some x => rw [h0] at c31; cases c31
        refine vc_skip ?_
        refine vc_inNormal ?_
        refine vc_then ?_
        refine vc_region ?_
        refine vp ?_
        first | refine vc_y (y_arith _ rfl (wrapNadd (by omega))) rfl ?_ | refine vc_y (y_arith _ rfl (wrap64 (by omega) (by omega))) rfl ?_ | refine vp ?_
        refine vp ?_
        refine vc_nil ?_
        refine vc_then ?_
        first | exact vc_again (x := (i, hh, es)) (i + 1, h47, es ++ [⟨T[i].1, x.seq, x.val⟩]) ⟨hi2, by rw [hsn, hx, hst], by simp; omega⟩ (by show T.length - (i + 1) < T.length - i; omega) ⟨rfl, rfl, rfl, trivial⟩ (ent_pick [1, 4, 0, 0, 0, 1] rfl) | exact vc_again (x := (i, hh, es)) (i + 1, hh, es) ⟨hi2, by rw [hsn, hx, hst]; simp, by omega⟩ (by show T.length - (i + 1) < T.length - i; omega) ⟨rfl, rfl, rfl, trivial⟩ (ent_pick [1, 4, 0, 0, 0, 1] rfl)
      exact vo_nil
     exact vo_nil
    exact vo_nil
   exact vo_nil
  exact vo_nil
 ·skip
  obtain rfl : i = T.length := by omega
  rw [List.take_length, H.m] at hst
  refine vc_exit ?_
  refine vc_thenExit ?_
  refine vc_thenExit ?_
  refine vc_inExit ?_
  refine vc_then ?_
  refine vc_seq ?_
  refine vc_region ?_
  refine vp ?_
  refine vp ?_
  refine vc_nil ?_
  refine vc_then ?_
  refine vc_ret ?_
  exact vc_end1 Tryz.results92 rfl _ (ent_pick [0, 0, 0, 0, 0, 0] rfl) ⟨hh, rfl, by rw [hst]; rfl⟩
structure RfI where
 K : RfK
 hO : SH
 T : List On
 hS : SH
 L : List Int
def RfO (b : Nat) (X : RmX) (I : RfI) : List HP := RfL b I.K I.hO I.T ++ [RgP I.K.bG I.K.ring X.R.begin I.hS, Sl eU64 I.hS I.L]
def RefC (b : Nat) (X : RmX) : HP := ex fun I => sep (lift (RfH X I.K I.T X.R.begin I.L)) (seps (RfO b X I))
theorem ent_Rf {b : Nat} {X : RmX} {K : RfK} {hO : SH} {T : List On} {bg : Int} {hS : SH} {L : List Int} (H : RfH X K T bg L) {r : List HP} : Ent (seps (RfL b K hO T ++ [RgP K.bG K.ring bg hS, Sl eU64 hS L] ++ r)) (seps (RefC b X :: r)) := by
 have e := H.bg
 subst e
 have := Ent.append.trans ((ent_lift (p := RfH X K T X.R.begin L) H (A := seps (RfO b X ⟨K, hO, T, hS, L⟩)) (r := r)).trans (ent_ex (f := fun I => sep (lift (RfH X I.K I.T X.R.begin I.L)) (seps (RfO b X I))) ⟨K, hO, T, hS, L⟩))
 exact this
theorem ref_does {f : FuncId} {args : List Value} {b : Nat} {X : RmX} {r : List HP} {Q : Value → List HP → Prop} (h : ∀ I, RfH X I.K I.T X.R.begin I.L → Does Tryz.prog f args (RfO b X I ++ r) Q) : Does Tryz.prog f args (RefC b X :: r) Q :=
 Does.ex1 fun I => Does.lift1 fun rel => Does.pre Ent.append' (h I rel)
theorem ent_Rf0 {b : Nat} {X : RmX} {K : RfK} {hO : SH} {T : List On} {bg : Int} {hS : SH} {L : List Int} (H : RfH X K T bg L) : Ent (seps (RfL b K hO T ++ [RgP K.bG K.ring bg hS, Sl eU64 hS L])) (seps [RefC b X]) := by
 have := ent_Rf (b := b) (hO := hO) (hS := hS) H (r := [])
 rwa [List.append_nil] at this
section
variable {b : Nat} {X : RmX}
theorem ref_sweep (ok : X.ok) : Does Tryz.prog 69 [.pointer (some ⟨b, 0, none⟩)] [RefC b X] (fun v l => v = .int .i64 (versM X.M - versM (sweepM X.M X.R.floor)) ∧ l = [RefC b (swX X)]) :=
 ref_does (r := []) fun I H => Does.fin (rfSweep H) fun v l ⟨e, hO, T, H2, h⟩ => ⟨_, h ▸ ent_Rf0 H2, e, rfl⟩
theorem ref_entries (ok : X.ok) : Does Tryz.prog 92 [.pointer (some ⟨b, 0, none⟩)] [RefC b X] (fun v l => ∃ h', v = h'.v ∧ l = [RefC b X, Sl eEn h' (entM X.M X.R.seq)]) :=
 ref_does (r := []) fun I H => Does.fin (rfEnt H) fun v l ⟨h', e, h⟩ => ⟨_, h ▸ ent_Rf H (r := [Sl eEn h' (entM X.M X.R.seq)]), h', e, rfl⟩
theorem ref_check {A : HP} {h : SH} {ws : List Wr} (hv : Vis A (Rd eWr h ws)) (hb : ws.length ≤ 1000000) (hbits : ∀ w ∈ ws, 0 ≤ w.val.bits ∧ w.val.bits ≤ 18446744073709551615) (hbg : X.R.seq - X.R.begin < 900000) (hle : X.M.length + ws.length ≤ 100000 ∨ mayW ws = false) (seq : Int) : Does Tryz.prog 70 [.pointer (some ⟨b, 0, none⟩), h.v, .int .i64 seq] [RefC b X, A] (fun v l => v = .int .i64 (checkE X ws seq) ∧ l = [RefC b X, A]) :=
 ref_does (r := [A]) fun I H => Does.fin (rfCheck H hv hb hbits hbg hle seq) fun v l ⟨e, h⟩ => ⟨_, h ▸ ent_Rf H (r := [A]), e, rfl⟩
theorem ref_commit {A : HP} {h : SH} {ws : List Wr} (hv : Vis A (Rd eWr h ws)) (hb : ws.length ≤ 1000000) (hbits : ∀ w ∈ ws, 0 ≤ w.val.bits ∧ w.val.bits ≤ 18446744073709551615) (hbg : X.R.seq - X.R.begin < 900000) (hle : X.M.length + ws.length ≤ 100000 ∨ mayW ws = false) (stamp : Int) : Does Tryz.prog 68 [.pointer (some ⟨b, 0, none⟩), h.v, .int .u64 stamp] [RefC b X, A] (fun v l => v = .tuple #[.int .i64 (commitX X ws stamp).1, .int .i64 (commitX X ws stamp).2.1] ∧ (commitX X ws stamp).2.2.ok ∧ l = [RefC b (commitX X ws stamp).2.2, A]) :=
 ref_does (r := [A]) fun I H => Does.fin (rfCommit H hv hb hbits hbg hle stamp) fun v l ⟨e, hO, T, hS, L, H2, h⟩ => ⟨_, h ▸ ent_Rf H2 (r := [A]), e, H2.ok, rfl⟩
theorem ref_new {h : SH} {label : List Int} {ring quota most seq : Int} (hr : setRight label ring quota most = true) (h1 : 0 ≤ seq) (h2 : seq ≤ most) : Does Tryz.prog 12 [.agg #[h.v, .int .i64 ring, .int .i64 quota, .int .i64 most], .int .i64 seq] [] (fun v l => ∃ b, v = .pointer (some ⟨b, 0, none⟩) ∧ l = [RefC b (X0 label ring quota most seq)]) :=
 Does.fin (refNew_spec ring quota most seq) fun v l ⟨b, bG, e, h⟩ => ⟨[RefC b (X0 label ring quota most seq)], h ▸ ent_Rf0 ⟨X0_ok hr h1 h2, rfl, rfl, rfl, rfl, ⟨by simp [X0], by simp [X0], trivial⟩, rfl⟩, b, e, rfl⟩
end
end Go.Proofs.YtcpbibdbahfgaaaGreat
namespace Go.Proofs.YtcpbibdbahfgaaaGreat
open Go.Eng
namespace FLaw11a
theorem sl_35 : TySl Tryz.prog 35 97 5 := ⟨Tryz.underlying35, by kernel_rfl⟩
theorem fl_97_0 : Fld Tryz.prog 97 0 0 := ⟨_, _, 0, Tryz.underlying97, rfl, rfl, by kernel_rfl⟩
theorem one_9 : TyOne Tryz.prog 9 := ⟨⟨_, Tryz.underlying9, rfl⟩, by kernel_rfl⟩
theorem fl_97_2 : Fld Tryz.prog 97 2 2 := ⟨_, _, 2, Tryz.underlying97, rfl, rfl, by kernel_rfl⟩
theorem fl_45_1 : Fld Tryz.prog 45 1 1 := ⟨_, _, 0, Tryz.underlying45, rfl, rfl, by kernel_rfl⟩
theorem fl_37_0 : Fld Tryz.prog 37 0 0 := ⟨_, _, 0, Tryz.underlying37, rfl, rfl, by kernel_rfl⟩
theorem one_3 : TyOne Tryz.prog 3 := ⟨⟨_, Tryz.underlying3, rfl⟩, by kernel_rfl⟩
theorem one_34 : TyOne Tryz.prog 34 := ⟨⟨_, Tryz.underlying34, rfl⟩, by kernel_rfl⟩
theorem fl_37_2 : Fld Tryz.prog 37 2 2 := ⟨_, _, 0, Tryz.underlying37, rfl, rfl, by kernel_rfl⟩
theorem one_5 : TyOne Tryz.prog 5 := ⟨⟨_, Tryz.underlying5, rfl⟩, by kernel_rfl⟩
theorem fl_37_1 : Fld Tryz.prog 37 1 1 := ⟨_, _, 0, Tryz.underlying37, rfl, rfl, by kernel_rfl⟩
theorem one_35 : TyOne Tryz.prog 35 := ⟨⟨_, Tryz.underlying35, rfl⟩, by kernel_rfl⟩
theorem ca_15 : Callable Tryz.prog 15 := ⟨_, _, Tryz.func15, rfl, rfl⟩
theorem ca_68 : Callable Tryz.prog 68 := ⟨_, _, Tryz.func68, rfl, rfl⟩
theorem sz_34 : (Tryz.prog.info? 34).map (·.size) = some 1 := by kernel_rfl
theorem ca_17 : Callable Tryz.prog 17 := ⟨_, _, Tryz.func17, rfl, rfl⟩
theorem ca_69 : Callable Tryz.prog 69 := ⟨_, _, Tryz.func69, rfl, rfl⟩
theorem fl_37_3 : Fld Tryz.prog 37 3 3 := ⟨_, _, 0, Tryz.underlying37, rfl, rfl, by kernel_rfl⟩
theorem ca_21 : Callable Tryz.prog 21 := ⟨_, _, Tryz.func21, rfl, rfl⟩
theorem ca_70 : Callable Tryz.prog 70 := ⟨_, _, Tryz.func70, rfl, rfl⟩
theorem ze_24 : (Tryz.prog.info? 24).map (·.zero) = some (some (.agg #[.slice none 0 0, .int .i64 0, .int .i64 0, .int .i64 0])) := by kernel_rfl
theorem bu_24_1_2_3 (v1 : Value) (v2 : Value) (v3 : Value) (h1 : v1.cells = #[v1]) (h2 : v2.cells = #[v2]) (h3 : v3.cells = #[v3]) (w : World) : (Instr.build 24 #[(1, v1), (2, v2), (3, v3)]).run Tryz.prog w = .ok (.agg #[.slice none 0 0, v1, v2, v3]) w := by
 have hz := @ze_24
 exact Go.Eng.run_build (pl := [(0, 1), (1, 1), (2, 1), (3, 1)]) hz Tryz.underlying24 (by kernel_rfl) rfl (by simp [Instr.fill, h1, h2, h3, cells_agg]) w
theorem ca_11 : Callable Tryz.prog 11 := ⟨_, _, Tryz.func11, rfl, rfl⟩
theorem ze_45 : (Tryz.prog.info? 45).map (·.zero) = some (some (.agg #[.bool false, .string ⟨#[]⟩, .int .u64 0])) := by kernel_rfl
theorem bu_45_1 (v1 : Value) (h1 : v1.cells = #[v1]) (w : World) : (Instr.build 45 #[(1, v1)]).run Tryz.prog w = .ok (.agg #[.bool false, v1, .int .u64 0]) w := by
 have hz := @ze_45
 exact Go.Eng.run_build (pl := [(0, 1), (1, 1), (2, 1)]) hz Tryz.underlying45 (by kernel_rfl) rfl (by simp [Instr.fill, h1, cells_agg]) w
theorem ze_97 : (Tryz.prog.info? 97).map (·.zero) = some (some (.agg #[.string ⟨#[]⟩, .bool false, .bool false, .string ⟨#[]⟩, .int .u64 0])) := by kernel_rfl
theorem bu_97_0_2 (v0 : Value) (v2_0 v2_1 v2_2 : Value) (h0 : v0.cells = #[v0]) (w : World) : (Instr.build 97 #[(0, v0), (2, .agg #[v2_0, v2_1, v2_2])]).run Tryz.prog w = .ok (.agg #[v0, .bool false, v2_0, v2_1, v2_2]) w := by
 have hz := @ze_97
 exact Go.Eng.run_build (pl := [(0, 1), (1, 1), (2, 3)]) hz Tryz.underlying97 (by kernel_rfl) rfl (by simp [Instr.fill, h0, cells_agg]) w
theorem sz_97 : (Tryz.prog.info? 97).map (·.size) = some 5 := by kernel_rfl
theorem bs_35_1 (v0_0 v0_1 v0_2 v0_3 v0_4 : Value)  (w : World) : (Instr.buildSlice 35 1 #[(0, .agg #[v0_0, v0_1, v0_2, v0_3, v0_4])]).run Tryz.prog w = .ok (.slice (some ⟨w.heap.size, 0, none⟩) 1 1) { w with heap := w.heap.push (.cells #[v0_0, v0_1, v0_2, v0_3, v0_4] 97 (0, 0)) } :=
 Go.Eng.run_buildSlice Tryz.underlying35 sz_97 ze_97 (by decide) (by rw [show Array.range (1 * 5) = #[0, 1, 2, 3, 4] from by decide]; simp [Instr.fill, cells_agg]) w
end FLaw11a
open FLaw11a
structure ActV where
 kind : Int
 hL : SH
 by' : Int
 seq : Int
 key : ByteArray
 ws : List Wr
def ActV.cs (a : ActV) : List Value := [.int .i64 a.kind, a.hL.v, .int .u8 a.by', .int .i64 a.seq, .string a.key]
def eAct : Enc ActV := ⟨37, 5, ActV.cs, fun _ => rfl, fun _ c h => by simp [ActV.cs] at h; rcases h with rfl | rfl | rfl | rfl | rfl <;> rfl, by decide⟩
def stampA (a : ActV) (x : Int) : Int := IntKind.u64.wrap (x + a.by')
def actX (X : RmX) (a : ActV) (x : Int) : RmX × Int := if a.kind = 1 then ((commitX X a.ws (stampA a x)).2.2, if (commitX X a.ws (stampA a x)).2.1 = 0 then stampA a x else x) else if a.kind = 2 then (swX X, x) else (X, x)
structure ActOk (W : HP) (a : ActV) : Prop where
 vis : Vis W (Rd eWr a.hL a.ws)
 bits : ∀ w ∈ a.ws, 0 ≤ w.val.bits ∧ w.val.bits ≤ 18446744073709551615
 by' : 0 ≤ a.by' ∧ a.by' ≤ 255
 seq : a.seq ≤ 9223372036854775807
theorem far_spec {A : HP} {h : SH} {ws : List Wr} (hv : Vis A (Rd eWr h ws)) : Does Tryz.prog 13 [h.v] [A] (fun v l => ∃ t, v = .bool t ∧ (t = false → ws.length ≤ 30) ∧ l = [A]) := by
 refine spec_of Tryz.func13 rfl Tryz.ntmps13 Tryz.results13 _ (by simp) fun ι F => ?_
 refine vc_see 0 rfl (hv.imp fun w r => r.len) (fun hlen => ?_)
 refine vc_seq ?_
 refine vc_region ?_
 refine vp ?_
 refine vc_nil ?_
 refine vc_then ?_
 refine vc_seq ?_
 refine vc_seq ?_
 refine vc_region ?_
 refine vp ?_
 refine vc_y (y_len Tryz.underlying35 rfl (by first | assumption | rfl)) rfl ?_
 refine vp ?_
 refine vc_nil ?_
 refine vc_then ?_
 first | refine vc_condP rfl (fun c6 => ?_) (fun c6 => ?_) | refine vc_condN rfl (fun c6 => ?_) (fun c6 => ?_) | refine vc_cond rfl (fun c6 => ?_) (fun c6 => ?_)
 ·skip
  refine vc_seq ?_
  refine vc_region ?_
  refine vp ?_
  refine vc_nil ?_
  refine vc_then ?_
  refine vc_ret ?_
  refine vc_thenRet ?_
  exact vc_end1 Tryz.results13 rfl _ (ent_pick [0] rfl) ⟨_, rfl, by first | (intro h0; cases h0; done) | (intro _; omega), rfl⟩
 ·skip
  refine vc_skip ?_
  refine vc_then ?_
  refine vc_seq ?_
  refine vc_seq ?_
  refine vc_region ?_
  refine vp ?_
  refine vc_nil ?_
  refine vc_then ?_
  refine vc_block ?_
  refine vc_loop (α := Nat) (fun xq_ => match xq_ with | i => [(0, h.v), (3, .int .i64 (i : Int))]) (fun xq_ => match xq_ with | i => [A]) (fun xq_ => match xq_ with | i => ws.length - i) (fun xq_ => match xq_ with | i => i ≤ ws.length) 0 (Nat.zero_le _) ⟨rfl, rfl, trivial⟩ (ent_pick [0] rfl) ?_
  rintro i hi
  show VC _ _ _ _ [(0, h.v), (3, .int .i64 (i : Int))] ([A])
  refine vc_seq ?_
  refine vc_seq ?_
  refine vc_region ?_
  refine vp ?_
  refine vp ?_
  refine vc_y (y_len Tryz.underlying35 rfl (by first | assumption | rfl)) rfl ?_
  refine vp ?_
  refine vc_nil ?_
  refine vc_then ?_
  first | refine vc_condP rfl (fun c10 => ?_) (fun c10 => ?_) | refine vc_condN rfl (fun c10 => ?_) (fun c10 => ?_) | refine vc_cond rfl (fun c10 => ?_) (fun c10 => ?_)
  ·skip
   have hi2 : i < ws.length := by omega
   refine vc_skip ?_
   refine vc_then ?_
   refine vc_seq ?_
   refine vc_block ?_
   refine vc_seq ?_
   refine vc_region ?_
   refine vp ?_
   refine vp ?_
   refine vc_y (y_elem 0 rfl (hv) i rfl hi2 sl_35 rfl rfl) rfl ?_
   refine vc_y (y_fieldE fl_97_0 0 rfl rfl) rfl ?_
   refine vc_y (y_load1 0 rfl one_9 rfl (Rd.vis1 (hv) (List.getElem?_eq_getElem (by first | assumption | omega)) rfl)) rfl ?_
   refine vc_y (y_strLen Tryz.underlying9 rfl) rfl ?_
   refine vp ?_
   refine vp ?_
   first | refine vc_splitP 20 rfl (fun c20 => ?_) (fun c20 => ?_) | refine vc_splitN 20 rfl (fun c20 => ?_) (fun c20 => ?_) | refine vc_split 20 rfl (fun c20 => ?_) (fun c20 => ?_)
   ·skip
    refine vc_guardF 20 rfl rfl rfl rfl ?_
    refine vc_guardF 20 rfl rfl rfl rfl ?_
    refine vc_guardF 20 rfl rfl rfl rfl ?_
    refine vc_guardF 20 rfl rfl rfl rfl ?_
    refine vc_guardF 20 rfl rfl rfl rfl ?_
    refine vc_guardF 20 rfl rfl rfl rfl ?_
    refine vc_guardF 20 rfl rfl rfl rfl ?_
    refine vc_guardF 20 rfl rfl rfl rfl ?_
    refine vp ?_
    refine vc_nil ?_
    refine vc_then ?_
    refine vc_condT rfl ?_
    refine vc_seq ?_
    refine vc_region ?_
    refine vp ?_
    refine vc_nil ?_
    refine vc_then ?_
    refine vc_ret ?_
    refine vc_inRet ?_
    refine vc_thenRet ?_
    refine vc_thenRet ?_
    refine vc_inRet ?_
    refine vc_thenRet ?_
    exact vc_end1 Tryz.results13 rfl _ (ent_pick [0] rfl) ⟨_, rfl, by first | (intro h0; cases h0; done) | (intro _; omega), rfl⟩
   ·skip
    refine vc_guardT 20 rfl rfl ?_
    refine vp ?_
    refine vc_guardT 20 rfl rfl ?_
    refine vp ?_
    refine vc_guardT 20 rfl rfl ?_
    refine vc_y (y_elem 0 rfl (hv) i rfl hi2 sl_35 rfl rfl) rfl ?_
    refine vc_guardT 20 rfl rfl ?_
    refine vc_y (y_fieldE fl_97_2 2 rfl rfl) rfl ?_
    refine vc_guardT 20 rfl rfl ?_
    refine vc_y (y_fieldE fl_45_1 3 rfl rfl) rfl ?_
    refine vc_guardT 20 rfl rfl ?_
    refine vc_y (y_load1 0 rfl one_9 rfl (Rd.vis1 (hv) (List.getElem?_eq_getElem (by first | assumption | omega)) rfl)) rfl ?_
    refine vc_guardT 20 rfl rfl ?_
    refine vc_y (y_strLen Tryz.underlying9 rfl) rfl ?_
    refine vc_guardT 20 rfl rfl ?_
    refine vp ?_
    refine vp ?_
    refine vc_nil ?_
    refine vc_then ?_
    first | refine vc_condP rfl (fun c29 => ?_) (fun c29 => ?_) | refine vc_condN rfl (fun c29 => ?_) (fun c29 => ?_) | refine vc_cond rfl (fun c29 => ?_) (fun c29 => ?_)
    ·skip
     refine vc_seq ?_
     refine vc_region ?_
     refine vp ?_
     refine vc_nil ?_
     refine vc_then ?_
     refine vc_ret ?_
     refine vc_inRet ?_
     refine vc_thenRet ?_
     refine vc_thenRet ?_
     refine vc_inRet ?_
     refine vc_thenRet ?_
     exact vc_end1 Tryz.results13 rfl _ (ent_pick [0] rfl) ⟨_, rfl, by first | (intro h0; cases h0; done) | (intro _; omega), rfl⟩
    ·skip
     refine vc_skip ?_
     refine vc_inNormal ?_
     refine vc_then ?_
     refine vc_region ?_
     refine vp ?_
     first | refine vc_y (y_arith _ rfl (wrapNadd (by omega))) rfl ?_ | refine vc_y (y_arith _ rfl (wrap64 (by omega) (by omega))) rfl ?_ | refine vp ?_
     refine vp ?_
     refine vc_nil ?_
     refine vc_then ?_
     exact vc_again (x := i) (i + 1) hi2 (by show ws.length - (i + 1) < ws.length - i; omega) ⟨rfl, rfl, trivial⟩ (ent_pick [0] rfl)
  ·skip
   refine vc_exit ?_
   refine vc_thenExit ?_
   refine vc_thenExit ?_
   refine vc_inExit ?_
   refine vc_then ?_
   refine vc_seq ?_
   refine vc_region ?_
   refine vp ?_
   refine vc_nil ?_
   refine vc_then ?_
   refine vc_ret ?_
   exact vc_end1 Tryz.results13 rfl _ (ent_pick [0] rfl) ⟨_, rfl, by first | (intro h0; cases h0; done) | (intro _; omega), rfl⟩
theorem does_spec {b bm bs : Nat} {X : RmX} (ok : X.ok) {W : HP} {a : ActV} (hA : ActOk W a) (hb : a.ws.length ≤ 1000000) (hbg : X.R.seq - X.R.begin < 900000) (hle : X.M.length + a.ws.length ≤ 100000 ∨ mayW a.ws = false) (x : Int) : Does Tryz.prog 14 [.pointer (some ⟨b, 0, none⟩), .pointer (some ⟨bm, 0, none⟩), .agg #[.int .i64 a.kind, a.hL.v, .int .u8 a.by', .int .i64 a.seq, .string a.key], .pointer (some ⟨bs, 0, none⟩)] [RoomC b X, RefC bm X, Pts bs [.int .u64 x] 34, W] (fun v l => v = .bool true ∧ (actX X a x).1.ok ∧ l = [RoomC b (actX X a x).1, RefC bm (actX X a x).1, Pts bs [.int .u64 (actX X a x).2] 34, W]) := by
 refine spec_of Tryz.func14 rfl Tryz.ntmps14 Tryz.results14 _ (by simp) fun ι F => ?_
 obtain ⟨h1, h2⟩ := hA.by'
 refine vc_seq ?_
 refine vc_region ?_
 refine vc_box [_, _, _, _, _] rfl rfl rfl (fun b6 => ?_)
 refine vp ?_
 refine vc_nil ?_
 refine vc_then ?_
 refine vc_seq ?_
 refine vc_seq ?_
 refine vc_region ?_
 refine vc_y (y_fieldP fl_37_0 0 rfl rfl) rfl ?_
 refine vc_y (y_load1 0 rfl one_3 rfl (Pts.vis rfl)) rfl ?_
 refine vc_nil ?_
 refine vc_then ?_
 refine vc_block ?_
 refine vc_seq ?_
 refine vc_region ?_
 refine vp ?_
 refine vp ?_
 refine vc_nil ?_
 refine vc_then ?_
 first | refine vc_condP rfl (fun c16 => ?_) (fun c16 => ?_) | refine vc_condN rfl (fun c16 => ?_) (fun c16 => ?_) | refine vc_cond rfl (fun c16 => ?_) (fun c16 => ?_)
 ·skip
  have hk : a.kind = 1 := c16
  refine vc_seq ?_
  refine vc_draw (by kernel_rfl) _ none [0, 2] rfl ?_
  refine tpp 0 ?_
  refine tpp 1 ?_
  refine tk 2 rfl (by exact y_load1 1 rfl one_34 rfl (Pts.vis rfl)) ?_
  refine tp 3 rfl (by exact y_fieldP fl_37_2 2 rfl rfl) ?_
  refine tk 4 rfl (by exact y_load1 0 rfl one_5 rfl (Pts.vis rfl)) ?_
  first | refine tp 5 rfl (by exact y_conv _ Tryz.underlying5 Tryz.underlying34 rfl (wrapU64 (by omega) (by omega))) ?_ | refine tp 5 rfl (by exact y_conv _ Tryz.underlying5 Tryz.underlying34 rfl rfl) ?_
  refine tp 6 rfl (by exact y_p (Value.int .u64 (stampA a x)) rfl) ?_
  refine tpp 7 ?_
  refine va_done (by kernel_rfl) ?_
  refine vc_then ?_
  refine vc_seq ?_
  refine vc_region ?_
  refine vp ?_
  refine vc_y (y_fieldP fl_37_1 1 rfl rfl) rfl ?_
  refine vc_y (y_load1 0 rfl one_35 rfl (Pts.vis rfl)) rfl ?_
  refine vp ?_
  refine vc_callv ca_15 (us := []) (vs := []) rfl [_, _, _] rfl [1, 3] rfl (room_commit ok hA.vis hb (stampA a x) hbg hle) rfl ?_
  rintro _ _ ⟨rfl, rfl⟩
  iterate 5 refine vp ?_
  refine vc_nil ?_
  refine vc_then ?_
  refine vc_seq ?_
  refine vc_region ?_
  refine vp ?_
  refine vc_y (y_fieldP fl_37_1 1 rfl rfl) rfl ?_
  refine vc_y (y_load1 2 rfl one_35 rfl (Pts.vis rfl)) rfl ?_
  refine vp ?_
  refine vc_callv ca_68 (us := []) (vs := []) rfl [_, _, _] rfl [3, 1] rfl (ref_commit hA.vis hb hA.bits hbg hle (stampA a x)) rfl ?_
  rintro _ _ ⟨rfl, hok2, rfl⟩
  iterate 5 refine vp ?_
  refine vc_nil ?_
  refine vc_then ?_
  refine vc_seq ?_
  refine vc_seq ?_
  refine vc_region ?_
  refine vp ?_
  refine vp ?_
  refine vc_nil ?_
  refine vc_then ?_
  first | refine vc_condP rfl (fun c42 => ?_) (fun c42 => ?_) | refine vc_condN rfl (fun c42 => ?_) (fun c42 => ?_) | refine vc_cond rfl (fun c42 => ?_) (fun c42 => ?_)
  ·skip
   have hax : actX X a x = ((commitX X a.ws (stampA a x)).2.2, stampA a x) := by unfold actX; rw [if_pos hk, if_pos c42]
   rw [hax]
   refine vc_region ?_
   iterate 3 refine vp ?_
   refine vc_storeP 4 rfl [_] [_] rfl rfl rfl sz_34 rfl rfl rfl ?_
   refine vc_nil ?_
   refine vc_then ?_
   refine vc_seq ?_
   refine vc_region ?_
   iterate 4 refine vp ?_
   first | refine vc_splitP 49 rfl (fun c49 => ?_) (fun c49 => ?_) | refine vc_splitN 49 rfl (fun c49 => ?_) (fun c49 => ?_) | refine vc_split 49 rfl (fun c49 => ?_) (fun c49 => ?_)
   ·skip
    refine vc_guardT 49 rfl rfl ?_
    refine vp ?_
    refine vc_guardT 49 rfl rfl ?_
    refine vp ?_
    refine vc_guardT 49 rfl rfl ?_
    iterate 3 refine vp ?_
    refine vc_nil ?_
    refine vc_then ?_
    refine vc_ret ?_
    refine vc_inRet ?_
    refine vc_thenRet ?_
    exact vc_end1 Tryz.results14 rfl _ (ent_pick [2, 0, 2, 0] rfl) ⟨by simp, by first | exact hok2 | exact ok.sweep | exact ok, rfl⟩
   ·skip
    exact absurd rfl c49
  ·skip
   have hax : actX X a x = ((commitX X a.ws (stampA a x)).2.2, x) := by unfold actX; rw [if_pos hk, if_neg c42]
   rw [hax]
   refine vc_skip ?_
   refine vc_then ?_
   refine vc_seq ?_
   refine vc_region ?_
   iterate 4 refine vp ?_
   first | refine vc_splitP 49 rfl (fun c49 => ?_) (fun c49 => ?_) | refine vc_splitN 49 rfl (fun c49 => ?_) (fun c49 => ?_) | refine vc_split 49 rfl (fun c49 => ?_) (fun c49 => ?_)
   ·skip
    refine vc_guardT 49 rfl rfl ?_
    refine vp ?_
    refine vc_guardT 49 rfl rfl ?_
    refine vp ?_
    refine vc_guardT 49 rfl rfl ?_
    iterate 3 refine vp ?_
    refine vc_nil ?_
    refine vc_then ?_
    refine vc_ret ?_
    refine vc_inRet ?_
    refine vc_thenRet ?_
    exact vc_end1 Tryz.results14 rfl _ (ent_pick [2, 0, 2, 0] rfl) ⟨by simp, by first | exact hok2 | exact ok.sweep | exact ok, rfl⟩
   ·skip
    exact absurd rfl c49
 ·skip
  have hk : ¬ a.kind = 1 := c16
  refine vc_seq ?_
  refine vc_region ?_
  refine vp ?_
  refine vp ?_
  refine vc_nil ?_
  refine vc_then ?_
  first | refine vc_condP rfl (fun c54 => ?_) (fun c54 => ?_) | refine vc_condN rfl (fun c54 => ?_) (fun c54 => ?_) | refine vc_cond rfl (fun c54 => ?_) (fun c54 => ?_)
  ·skip
   have hk2 : a.kind = 2 := c54
   have hax : actX X a x = (swX X, x) := by unfold actX; rw [if_neg hk, if_pos hk2]
   rw [hax]
   refine vc_seq ?_
   refine vc_region ?_
   refine vp ?_
   refine vc_callv ca_17 (us := []) (vs := []) rfl [_] rfl [1] rfl (room_sweep ok) rfl ?_
   rintro _ _ ⟨rfl, rfl⟩
   refine vp ?_
   refine vc_callv ca_69 (us := []) (vs := []) rfl [_] rfl [2] rfl (ref_sweep ok) rfl ?_
   rintro _ _ ⟨rfl, rfl⟩
   refine vp ?_
   refine vp ?_
   refine vc_nil ?_
   refine vc_then ?_
   refine vc_ret ?_
   refine vc_inRet ?_
   refine vc_thenRet ?_
   exact vc_end1 Tryz.results14 rfl _ (ent_pick [1, 0, 1, 1] rfl) ⟨by simp, by first | exact hok2 | exact ok.sweep | exact ok, rfl⟩
  ·skip
   have hk2 : ¬ a.kind = 2 := c54
   have hax : actX X a x = (X, x) := by unfold actX; rw [if_neg hk, if_neg hk2]
   rw [hax]
   refine vc_seq ?_
   refine vc_region ?_
   refine vp ?_
   refine vp ?_
   refine vc_nil ?_
   refine vc_then ?_
   first | refine vc_condP rfl (fun c61 => ?_) (fun c61 => ?_) | refine vc_condN rfl (fun c61 => ?_) (fun c61 => ?_) | refine vc_cond rfl (fun c61 => ?_) (fun c61 => ?_)
   ·skip
    refine vc_seq ?_
    refine vc_draw (by kernel_rfl) _ none [0] rfl ?_
    refine tpp 0 ?_
    refine tp 1 rfl (by exact y_fieldP fl_37_1 1 rfl rfl) ?_
    refine tk 2 rfl (by exact y_load1 0 rfl one_35 rfl (Pts.vis rfl)) ?_
    refine tp 3 rfl (by exact y_fieldP fl_37_3 3 rfl rfl) ?_
    refine tk 4 rfl (by exact y_load1 0 rfl one_3 rfl (Pts.vis rfl)) ?_
    refine tpp 6 ?_
    refine tp 7 rfl (by exact y_fieldP fl_37_1 1 rfl rfl) ?_
    refine tk 8 rfl (by exact y_load1 0 rfl one_35 rfl (Pts.vis rfl)) ?_
    refine tp 9 rfl (by exact y_fieldP fl_37_3 3 rfl rfl) ?_
    refine tk 10 rfl (by exact y_load1 0 rfl one_3 rfl (Pts.vis rfl)) ?_
    refine va_ready [5] (by kernel_rfl) rfl ?_
    refine vo_cons rfl (fun hC0 => ?_) ?_
    ·skip
     refine vc_callv ca_21 (us := []) (vs := []) rfl [_, _, _] rfl [1, 3] rfl (room_check ok hA.vis hb a.seq) rfl ?_
     rintro _ _ ⟨rfl, rfl⟩
     refine vc_nil ?_
     refine vc_then ?_
     refine va_kept hC0 [2] rfl ?_
     clear hC0
     refine va_ready [11] (by kernel_rfl) rfl ?_
     refine vo_cons rfl (fun hC0 => ?_) ?_
     ·skip
      refine vc_callv ca_70 (us := []) (vs := []) rfl [_, _, _] rfl [3, 1] rfl (ref_check hA.vis hb hA.bits hbg hle a.seq) rfl ?_
      rintro _ _ ⟨rfl, rfl⟩
      refine vc_nil ?_
      refine vc_then ?_
      refine va_kept hC0 [3] rfl ?_
      clear hC0
      refine tpp 12 ?_
      refine tpp 13 ?_
      refine va_done (by kernel_rfl) ?_
      refine vc_then ?_
      refine vc_ret ?_
      refine vc_inRet ?_
      refine vc_thenRet ?_
      exact vc_end1 Tryz.results14 rfl _ (ent_pick [2, 0, 2, 0] rfl) ⟨by simp, by first | exact hok2 | exact ok.sweep | exact ok, rfl⟩
     exact vo_nil
    exact vo_nil
   ·skip
    refine vc_skip ?_
    refine vc_inNormal ?_
    refine vc_then ?_
    refine vc_seq ?_
    refine vc_region ?_
    refine vp ?_
    refine vc_nil ?_
    refine vc_then ?_
    refine vc_ret ?_
    exact vc_end1 Tryz.results14 rfl _ (ent_pick [1, 1, 1, 1] rfl) ⟨by simp, by first | exact hok2 | exact ok.sweep | exact ok, rfl⟩
theorem setting11 : setRight [] 1 3 9 = true := by kernel_rfl
def X11 : RmX := X0 [] 1 3 9 0
theorem X11_ok : X11.ok := X0_ok setting11 (by decide) (by decide)
theorem vis_nil11 {α : Type} {E : Enc α} : Vis emp (Rd E nilS ([] : List α)) := fun _ _ _ => Rd.nil
theorem new11 : Does Tryz.prog 11 [.agg #[nilS.v, .int .i64 1, .int .i64 3, .int .i64 9]] [] (fun v l => ∃ b, v = verTup b ∧ l = [RoomC b X11]) :=
 Does.pre Ent.empL (Does.fin (new_ok (A := emp) vis_nil11 1 3 9 setting11) fun v l ⟨b, e, h⟩ => ⟨[RoomC b X11], h ▸ Ent.sep Ent.rfl Ent.right, b, e, rfl⟩)
def w11a : List Wr := [⟨⟨#[107]⟩, false, ⟨false, ⟨#[120]⟩, 0⟩⟩]
def w11b : List Wr := [⟨⟨#[107]⟩, false, ⟨false, ⟨#[120, 121]⟩, 0⟩⟩]
theorem chk11a : checkE X11 w11a 0 = 0 := by kernel_rfl
theorem chk11b : checkE X11 w11b 0 = 15 := by kernel_rfl
theorem awake11 : Does Tryz.prog 10 [] [] (fun v l => v = .bool true ∧ l = []) := by
 refine spec_of Tryz.func10 rfl Tryz.ntmps10 Tryz.results10 _ (by simp) fun ι F => ?_
 refine vc_seq ?_
 refine vc_region ?_
 refine vp ?_
 refine vc_nil ?_
 refine vc_then ?_
 refine vc_seq ?_
 refine vc_region ?_
 refine vc_y (y_build [(1, _), (2, _), (3, _)] [_, _, _, _] rfl (bu_24_1_2_3 _ _ _ rfl rfl rfl)) rfl ?_
 refine vc_callv ca_11 (us := []) (vs := []) rfl [_] rfl [] rfl (new11) rfl ?_
 rintro _ _ ⟨b, rfl, rfl⟩
 iterate 5 refine vp ?_
 refine vc_nil ?_
 refine vc_then ?_
 refine vc_seq ?_
 refine vc_region ?_
 refine vp ?_
 refine vc_y (y_build [(1, _)] [_, _, _] rfl (bu_45_1 _ rfl)) rfl ?_
 refine vc_y (y_build [(0, _), (2, _)] [_, _, _, _, _] rfl (bu_97_0_2 _ _ _ _ rfl)) rfl ?_
 refine vc_buildSlice (E := eWr) [(0, _)] w11a rfl rfl (bs_35_1 _ _ _ _ _ ) rfl (fun h13 => ?_)
 refine vc_callv ca_21 (us := []) (vs := []) rfl [_, _, _] rfl [1, 0] rfl (Does.re (room_check X11_ok (ws := w11a) Sl.vis (by simp [w11a]) 0) (show _ = Value.int .i64 0 by rw [chk11a])) rfl ?_
 rintro _ _ ⟨rfl, rfl⟩
 refine vp ?_
 refine vc_nil ?_
 refine vc_then ?_
 refine vc_seq ?_
 refine vc_region ?_
 refine vp ?_
 refine vc_y (y_build [(1, _)] [_, _, _] rfl (bu_45_1 _ rfl)) rfl ?_
 refine vc_y (y_build [(0, _), (2, _)] [_, _, _, _, _] rfl (bu_97_0_2 _ _ _ _ rfl)) rfl ?_
 refine vc_buildSlice (E := eWr) [(0, _)] w11b rfl rfl (bs_35_1 _ _ _ _ _ ) rfl (fun h18 => ?_)
 refine vc_callv ca_21 (us := []) (vs := []) rfl [_, _, _] rfl [1, 0] rfl (Does.re (room_check X11_ok (ws := w11b) Sl.vis (by simp [w11b]) 0) (show _ = Value.int .i64 15 by rw [chk11b])) rfl ?_
 rintro _ _ ⟨rfl, rfl⟩
 refine vp ?_
 refine vc_nil ?_
 refine vc_then ?_
 refine vc_seq ?_
 refine vc_region ?_
 iterate 3 refine vp ?_
 first | refine vc_splitP 22 rfl (fun c22 => ?_) (fun c22 => ?_) | refine vc_splitN 22 rfl (fun c22 => ?_) (fun c22 => ?_) | refine vc_split 22 rfl (fun c22 => ?_) (fun c22 => ?_)
 ·skip
  refine vc_guardT 22 rfl rfl ?_
  refine vp ?_
  refine vc_guardT 22 rfl rfl ?_
  iterate 3 refine vp ?_
  first | refine vc_splitP 26 rfl (fun c26 => ?_) (fun c26 => ?_) | refine vc_splitN 26 rfl (fun c26 => ?_) (fun c26 => ?_) | refine vc_split 26 rfl (fun c26 => ?_) (fun c26 => ?_)
  ·skip
   refine vc_guardT 26 rfl rfl ?_
   refine vp ?_
   refine vc_guardT 26 rfl rfl ?_
   iterate 3 refine vp ?_
   refine vc_nil ?_
   refine vc_then ?_
   refine vc_ret ?_
   exact vc_end1 Tryz.results10 rfl _ (ent_pick [] rfl) ⟨by simp, rfl⟩
  ·skip
   simp at c26
 ·skip
  simp at c22
end Go.Proofs.YtcpbibdbahfgaaaGreat
namespace Go.Proofs.YtcpbibdbahfgaaaGreat
open Go.Eng
theorem from_skip (key : ByteArray) (ab : Bool) (s : Int) : ∀ (A B : Mp) (n : Nat), (∀ p ∈ A, (sLt key p.1 || (!ab && sEq p.1 key)) = false) → fromI key ab s (A ++ B) n = fromI key ab s B (n + A.length)
 | [], B, n, _ => by simp
 | p :: A, B, n, h => by
  have h1 := h p (by simp)
  simp only [List.cons_append, fromI, h1, Bool.and_false, Bool.false_eq_true, if_false]
  rw [from_skip key ab s A B (n + 1) fun q hq => h q (by simp [hq])]
  simp only [List.length_cons]
  congr 1; omega
theorem from_find (key : ByteArray) (ab : Bool) (s : Int) : ∀ (B : Mp) (n : Nat), (∀ p ∈ B, (sLt key p.1 || (!ab && sEq p.1 key)) = true) →
  (fromI key ab s B n = -1 ∧ firstLive B s = none) ∨ ∃ (j : Nat) (p : ByteArray × List Ver) (v : Ver), fromI key ab s B n = ((n + j : Nat) : Int) ∧ B[j]? = some p ∧ verAt p.2 s = some v ∧ firstLive B s = some (p.1, v)
 | [], n, _ => .inl ⟨rfl, rfl⟩
 | p :: B, n, h => by
  have h1 := h p (by simp)
  cases hv : verAt p.2 s with
  | some v =>
   refine .inr ⟨0, p, v, ?_, rfl, hv, ?_⟩
   ·simp only [fromI, h1, hv, Option.isSome_some, Bool.and_true, if_true]; rfl
   ·simp only [firstLive, hv]
  | none =>
   have e1 : fromI key ab s (p :: B) n = fromI key ab s B (n + 1) := by simp only [fromI, hv, Option.isSome_none, Bool.false_and, Bool.false_eq_true, if_false]
   have e2 : firstLive (p :: B) s = firstLive B s := by simp only [firstLive, hv]
   rw [e1, e2]
   rcases from_find key ab s B (n + 1) fun q hq => h q (by simp [hq]) with h2 | ⟨j, q, v, a1, a2, a3, a4⟩
   ·exact .inl h2
   ·exact .inr ⟨j + 1, q, v, by rw [a1]; congr 1; omega, by simpa using a2, a3, a4⟩
theorem next_split {M : Mp} (hr : Rise (ks M)) (key : ByteArray) (ab : Bool) : nextP M key ab ≤ M.length ∧ (∀ p ∈ M.take (nextP M key ab), (sLt key p.1 || (!ab && sEq p.1 key)) = false) ∧ (∀ p ∈ M.drop (nextP M key ab), (sLt key p.1 || (!ab && sEq p.1 key)) = true) := by
 have hb := lb_le (ks M) key
 have hkl : (ks M).length = M.length := by simp [ks]
 have key_at : ∀ i (hi : i < M.length), (ks M)[i]'(by omega) = M[i].1 := fun i hi => by simp [ks]
 have hlt : ∀ i (hi : i < M.length), sLt M[i].1 key = true ↔ i < lb (ks M) key := fun i hi => by rw [← key_at i hi]; exact lb_iff hr key (by omega)
 have heq : ∀ i (hi : i < M.length), M[i].1 = key → i = lb (ks M) key ∧ fnd (ks M) key = true := fun i hi e => by
  have := lb_at hr (p := i) (k := key) (by rw [List.getElem?_eq_getElem (by omega), key_at i hi, e])
  exact ⟨this.1.symm, this.2⟩
 have hnp : nextP M key ab ≤ M.length := by
  unfold nextP
  split
  ·rename_i h
   simp only [Bool.and_eq_true] at h
   have := fnd_lt0 h.1
   omega
  ·omega
 have hA : ∀ p ∈ M.take (nextP M key ab), (sLt key p.1 || (!ab && sEq p.1 key)) = false := by
  intro p hp
  obtain ⟨i, hi, rfl⟩ := List.mem_take_iff_getElem.1 hp
  have hi2 : i < M.length := by omega
  by_cases hl : i < lb (ks M) key
  ·have h1 := (hlt i hi2).2 hl
   rw [sLt_asymm h1, sEq_false.2 (sLt_ne h1)]; simp
  ·have hn : nextP M key ab = lb (ks M) key + 1 := by
    unfold nextP at hi ⊢
    split
    ·rfl
    ·rename_i h; rw [if_neg h] at hi; omega
   have hab : fnd (ks M) key = true ∧ ab = true := by
    unfold nextP at hn
    split at hn
    ·rename_i h; simpa using h
    ·omega
   have hil : i = lb (ks M) key := by omega
   obtain ⟨w, A, B, e1, e2, e3, e4, e5⟩ := fnd_split hab.1
   have hk : M[i].1 = key := by
    have : M[i]? = some (key, w) := by
     rw [hil, ← e3]
     conv => lhs; arg 1; rw [e2]
     simp
    rw [List.getElem?_eq_getElem hi2] at this
    rw [Option.some.inj this]
   rw [hk, sLt_irrefl, hab.2]; rfl
 have hB : ∀ p ∈ M.drop (nextP M key ab), (sLt key p.1 || (!ab && sEq p.1 key)) = true := by
  intro p hp
  obtain ⟨i, hi, rfl⟩ := List.mem_drop_iff_getElem.1 hp
  have hge : ¬ sLt M[nextP M key ab + i].1 key = true := fun h0 => by
   have := (hlt _ (by omega)).1 h0
   have : lb (ks M) key ≤ nextP M key ab := by unfold nextP; split <;> omega
   omega
  rcases sLt_total key M[nextP M key ab + i].1 with h | h | h
  ·rw [h]; rfl
  ·have := heq _ (by omega) h.symm
   have hab : ab = false := by
    cases ab with
    | false => rfl
    | true =>
     unfold nextP at this
     rw [if_pos (by simp [this.2])] at this
     omega
   have h2 : sEq M[nextP M key ab + i].1 key = true := by rw [← h]; exact sEq_self _
   have h3 : (!ab) = true := by rw [hab]; rfl
   rw [h2, h3]; simp
  ·exact absurd h hge
 exact ⟨hnp, hA, hB⟩
theorem from_live {M : Mp} (hr : Rise (ks M)) (key : ByteArray) (ab : Bool) (s : Int) :
  (fromI key ab s M 0 = -1 ∧ liveFrom M key ab s = none) ∨ ∃ (j : Nat) (p : ByteArray × List Ver) (v : Ver), fromI key ab s M 0 = (j : Int) ∧ M[j]? = some p ∧ verAt p.2 s = some v ∧ liveFrom M key ab s = some (p.1, v) := by
 obtain ⟨hnp, hA, hB⟩ := next_split hr key ab
 have e := List.take_append_drop (nextP M key ab) M
 have h0 := from_skip key ab s _ (M.drop (nextP M key ab)) 0 hA
 rw [e] at h0
 rw [h0]
 unfold liveFrom
 rcases from_find key ab s _ (0 + (M.take (nextP M key ab)).length) hB with h2 | ⟨j, q, v, a1, a2, a3, a4⟩
 ·exact .inl h2
 ·refine .inr ⟨nextP M key ab + j, q, v, ?_, ?_, a3, a4⟩
  ·rw [a1, List.length_take]; congr 1; omega
  ·rw [List.getElem?_drop] at a2; exact a2
theorem bhd_all {s : Int} : ∀ {l : List Ver}, (∀ v ∈ l, v.seq ≤ s) → bhd l s = l.length
 | [], _ => rfl
 | v :: r, h => by
  simp only [bhd, List.length_cons]
  rw [if_pos (h v (by simp)), bhd_all fun w hw => h w (by simp [hw])]
theorem verAt_last {l : List Ver} {s : Int} (hc : chainRight l = true) (h : ∀ v ∈ l, v.seq ≤ s) (hne : l ≠ []) : ∃ v, verLast l = some v ∧ verAt l s = (if v.gone then none else some v) := by
 have hl : 0 < l.length := by cases l with | nil => exact absurd rfl hne | cons v r => simp
 refine ⟨l[l.length - 1]'(by omega), by unfold verLast; rw [if_pos hc]; exact List.getElem?_eq_getElem (by omega), ?_⟩
 have hb := bhd_all h
 have h1 : 1 ≤ s := by
  have := h _ (List.getElem_mem (show 0 < l.length by omega))
  have := (chain_seq hc hl).1
  omega
 unfold verAt
 rw [hc, hb, List.getElem?_eq_getElem (by omega)]
 simp only [Bool.true_and, decide_eq_true h1, if_true]
 cases (l[l.length - 1]'(by omega)).gone <;> simp <;> omega
theorem lives_verAt {R : RR} {p : ByteArray × List Ver} (h : PairOk R p) : min (lives p.1 p.2) 1 = ((match verAt p.2 R.seq with | some _ => 1 | none => 0 : Nat) : Int) := by
 obtain ⟨v, h1, h2⟩ := verAt_last h.c h.sq h.ne
 have hv : cWeight p.2 = if v.gone then 0 else vWeight v.val := by unfold cWeight; rw [h1]
 have hm : v ∈ p.2 := by
  unfold verLast at h1
  rw [if_pos h.c] at h1
  exact List.mem_of_getElem? h1
 have hw := vWeight_pos (verRight_val (chainFrom_mem h.c v hm).2)
 have hk := h.k1
 rw [h2]
 unfold lives
 rw [hv]
 cases v.gone with
 | true => simp; rfl
 | false => simp only [Bool.false_eq_true, if_false]; rw [if_neg (by omega)]; show min _ 1 = (1 : Int); omega
theorem count_ent {X : RmX} (ok : X.ok) : countM X.M = ((entM X.M X.R.seq).length : Int) := by
 have : ∀ M : Mp, (∀ p ∈ M, PairOk X.R p) → countM M = ((entM M X.R.seq).length : Int) := by
  intro M
  induction M with
  | nil => intro _; rfl
  | cons p r ih =>
   intro h
   have h1 := lives_verAt (h p (by simp))
   have h2 := ih fun q hq => h q (by simp [hq])
   unfold countM at *
   simp only [sumM]
   rw [h1, h2]
   unfold entM en1
   rw [List.filterMap_cons]
   cases verAt p.2 X.R.seq with
   | none => simp
   | some v => simp; omega
 exact this X.M ok.ps
end Go.Proofs.YtcpbibdbahfgaaaGreat
namespace Go.Proofs.YtcpbibdbahfgaaaGreat
open Go.Eng
theorem bhd_drop (s : Int) : ∀ (j : Nat) {c : List Ver}, j ≤ bhd c s → bhd (c.drop j) s = bhd c s - j
 | 0, c, _ => rfl
 | j + 1, [], _ => by simp [bhd]
 | j + 1, v :: r, h => by
  simp only [bhd] at h ⊢
  split at h
  ·rename_i h1
   rw [if_pos h1, List.drop_succ_cons, bhd_drop s j (by omega)]; omega
  ·omega
theorem bhd_mono {F s : Int} (h : F ≤ s) : ∀ c : List Ver, bhd c F ≤ bhd c s
 | [] => Nat.le_refl _
 | v :: r => by
  have := bhd_mono h r
  simp only [bhd]
  by_cases h1 : v.seq ≤ F
  ·rw [if_pos h1, if_pos (by omega)]; omega
  ·rw [if_neg h1]; omega
theorem bhd_snoc {F : Int} {v : Ver} (hv : F < v.seq) : ∀ c : List Ver, bhd (c ++ [v]) F = bhd c F
 | [] => by simp only [List.nil_append, bhd]; rw [if_neg (by omega)]
 | w :: r => by simp only [List.cons_append, bhd, bhd_snoc hv r]
theorem bhd_pos {c : List Ver} {last s : Int} (h : chainFrom last c = true) (h0 : 0 ≤ last) (hb : 0 < bhd c s) : 1 ≤ s := by
 cases c with
 | nil => simp [bhd] at hb
 | cons v r =>
  simp only [chainFrom, Bool.and_eq_true, decide_eq_true_eq] at h
  simp only [bhd] at hb
  split at hb
  ·omega
  ·omega
def lstAt (c : List Ver) (s : Int) : Option Ver := if bhd c s = 0 then none else c[bhd c s - 1]?
theorem verAt_lst {c : List Ver} (h : chainRight c = true) (s : Int) : verAt c s = match lstAt c s with | some v => if v.gone then none else some v | none => none := by
 unfold verAt lstAt
 by_cases hz : bhd c s = 0
 ·rw [if_pos hz, h]
  simp only [hz, decide_true, Bool.true_or, if_true]
  split
  ·split <;> rfl
  ·rfl
 ·have h1 : 1 ≤ s := bhd_pos h (Int.le_refl 0) (by omega)
  rw [if_neg hz, h]
  simp only [Bool.true_and, decide_eq_true h1, if_true, decide_eq_false hz, Bool.false_or]
  cases c[bhd c s - 1]? <;> rfl
theorem verOld_lst {c : List Ver} (h : chainRight c = true) (s : Int) : verOld c s = match lstAt c s with | some v => if v.gone then bhd c s else bhd c s - 1 | none => 0 := by
 unfold verOld lstAt
 have hb := bhd_le c s
 by_cases hz : bhd c s = 0
 ·rw [if_pos hz, h]
  simp only [hz]
  split
  ·split
   ·simp
   ·rfl
  ·rfl
 ·have h1 : 1 ≤ s := bhd_pos h (Int.le_refl 0) (by omega)
  rw [if_neg hz, h, List.getElem?_eq_getElem (by omega)]
  simp only [Bool.true_and, decide_eq_true h1, if_true, decide_eq_true (show 0 < bhd c s by omega)]
  cases (c[bhd c s - 1]'(by omega)).gone <;> rfl
theorem verOld_bhd {c : List Ver} (h : chainRight c = true) (s : Int) : verOld c s ≤ bhd c s ∧ bhd c s ≤ verOld c s + 1 := by
 have := verOld_lst h s
 unfold lstAt at this
 by_cases hz : bhd c s = 0
 ·rw [if_pos hz] at this; simp only at this; omega
 ·have hb := bhd_le c s
  rw [if_neg hz, List.getElem?_eq_getElem (by omega)] at this
  simp only at this
  split at this <;> omega
section
variable {c : List Ver} {F s : Int} {j : Nat}
theorem lst_drop (h : chainRight c = true) (hj : j ≤ verOld c F) (hs : F ≤ s) : lstAt (c.drop j) s = (if bhd c s = j then none else lstAt c s) ∧ (bhd c s = j → 0 < j → ∃ v, lstAt c s = some v ∧ v.gone = true ∧ lstAt c F = some v) := by
 have h1 := verOld_bhd h F
 have h2 := bhd_mono hs c
 have h3 := bhd_le c s
 have hd := bhd_drop s j (c := c) (by omega)
 refine ⟨?_, fun e h0 => ?_⟩
 ·unfold lstAt
  rw [hd]
  by_cases e : bhd c s = j
  ·rw [if_pos (by omega), if_pos e]
  ·rw [if_neg (by omega), if_neg e, if_neg (by omega), List.getElem?_drop]
   congr 1; omega
 ·have e2 : bhd c F = j := by omega
  have h4 := verOld_lst h F
  have h5 : lstAt c F = some (c[j - 1]'(by omega)) := by
   unfold lstAt
   rw [e2, if_neg (by omega), List.getElem?_eq_getElem (by omega)]
  rw [h5] at h4
  simp only at h4
  cases hg : (c[j - 1]'(by omega)).gone with
  | true =>
   refine ⟨_, ?_, hg, h5⟩
   unfold lstAt
   rw [e, if_neg (by omega), List.getElem?_eq_getElem (by omega)]
  | false => rw [hg] at h4; simp only [Bool.false_eq_true, if_false] at h4; omega
theorem verAt_drop (h : chainRight c = true) (hj : j ≤ verOld c F) (hs : F ≤ s) : verAt (c.drop j) s = verAt c s := by
 obtain ⟨h1, h2⟩ := lst_drop h hj hs
 rw [verAt_lst h, verAt_lst (chainRight_drop h j), h1]
 by_cases e : bhd c s = j
 ·rw [if_pos e]
  by_cases h0 : 0 < j
  ·obtain ⟨v, e1, e2, _⟩ := h2 e h0
   rw [e1]; simp [e2]
  ·have : lstAt c s = none := by unfold lstAt; rw [if_pos (by omega)]
   rw [this]
 ·rw [if_neg e]
theorem verOld_drop (h : chainRight c = true) (hj : j ≤ verOld c F) : verOld (c.drop j) F = verOld c F - j := by
 obtain ⟨h1, h2⟩ := lst_drop h hj (Int.le_refl F)
 have h3 := verOld_bhd h F
 have hd := bhd_drop F j (c := c) (by omega)
 rw [verOld_lst h, verOld_lst (chainRight_drop h j), h1, hd]
 by_cases e : bhd c F = j
 ·rw [if_pos e]
  have := verOld_lst h F
  cases hl : lstAt c F with
  | none => simp only; omega
  | some v => rw [hl] at this; simp only at this ⊢; split <;> omega
 ·rw [if_neg e]
  cases hl : lstAt c F with
  | none =>
   exfalso
   unfold lstAt at hl
   have := bhd_le c F
   rw [if_neg (by omega), List.getElem?_eq_getElem (by omega)] at hl
   cases hl
  | some v => simp only; split <;> omega
theorem verOld_mono (h : chainRight c = true) (hs : F ≤ s) : verOld c F ≤ verOld c s := by
 have h1 := bhd_mono hs c
 have h2 := verOld_bhd h F
 have h3 := verOld_bhd h s
 by_cases e : bhd c F = bhd c s
 ·rw [verOld_lst h F, verOld_lst h s]
  have : lstAt c F = lstAt c s := by unfold lstAt; rw [e]
  rw [this, e]
  exact Nat.le_refl _
 ·omega
theorem verOld_snoc {v : Ver} (h : chainRight c = true) (h2 : chainRight (c ++ [v]) = true) (hv : F < v.seq) : verOld (c ++ [v]) F = verOld c F := by
 have hb := bhd_le c F
 rw [verOld_lst h, verOld_lst h2, bhd_snoc hv]
 have : lstAt (c ++ [v]) F = lstAt c F := by
  unfold lstAt
  rw [bhd_snoc hv]
  by_cases hz : bhd c F = 0
  ·rw [if_pos hz, if_pos hz]
  ·rw [if_neg hz, if_neg hz, List.getElem?_append_left (by omega)]
 rw [this]
theorem last_drop (h : chainRight c = true) (hj : j ≤ verOld c F) : (j < c.length ∧ verLast (c.drop j) = verLast c) ∨ (c.length ≤ j ∧ c.drop j = [] ∧ ∀ v, verLast c = some v → v.gone = true ∧ v.seq ≤ F) := by
 by_cases hl : j < c.length
 ·refine .inl ⟨hl, ?_⟩
  unfold verLast
  rw [if_pos h, if_pos (chainRight_drop h j), List.length_drop, List.getElem?_drop]
  congr 1; omega
 ·refine .inr ⟨by omega, List.drop_eq_nil_of_le (by omega), fun v hv => ?_⟩
  have h1 := verOld_bhd h F
  have h2 := bhd_le c F
  unfold verLast at hv
  rw [if_pos h] at hv
  have h0 := getLt hv
  have h3 := verOld_lst h F
  have h4 : lstAt c F = some v := by unfold lstAt; rw [if_neg (by omega), show bhd c F = c.length by omega]; exact hv
  rw [h4] at h3
  simp only at h3
  refine ⟨?_, ?_⟩
  ·cases hg : v.gone with
   | true => rfl
   | false => rw [hg] at h3; simp only [Bool.false_eq_true, if_false] at h3; omega
  ·have : ∀ (l : List Ver) (i : Nat) (hi : i < l.length), i < bhd l F → l[i].seq ≤ F := by
    intro l
    induction l with
    | nil => intro i hi; simp at hi
    | cons v r ih =>
     intro i hi hb
     simp only [bhd] at hb
     split at hb
     ·cases i with
      | zero => assumption
      | succ i => exact ih i (by simpa using hi) (by omega)
     ·omega
   have h5 := this c (c.length - 1) h0 (by omega)
   rw [List.getElem?_eq_getElem h0] at hv
   rwa [Option.some.inj hv] at h5
theorem weight_drop (h : chainRight c = true) (hj : j ≤ verOld c F) : cWeight (c.drop j) = cWeight c := by
 rcases last_drop h hj with ⟨_, e⟩ | ⟨_, e, hg⟩
 ·unfold cWeight; rw [e]
 ·rw [e]
  unfold cWeight
  cases hv : verLast c with
  | none => rfl
  | some v => simp [(hg v hv).1, verLast]
theorem lives_drop (h : chainRight c = true) (hj : j ≤ verOld c F) (k : ByteArray) : lives k (c.drop j) = lives k c := by unfold lives; rw [weight_drop h hj]
theorem conf_drop (h : chainRight c = true) (hj : j ≤ verOld c F) (hs : F ≤ s) : (match verLast (c.drop j) with | some v => decide (s < v.seq) | none => false) = (match verLast c with | some v => decide (s < v.seq) | none => false) := by
 rcases last_drop h hj with ⟨_, e⟩ | ⟨_, e, hg⟩
 ·rw [e]
 ·rw [e]
  cases hv : verLast c with
  | none => rfl
  | some v =>
   have := (hg v hv).2
   simp [verLast]; omega
end
end Go.Proofs.YtcpbibdbahfgaaaGreat
