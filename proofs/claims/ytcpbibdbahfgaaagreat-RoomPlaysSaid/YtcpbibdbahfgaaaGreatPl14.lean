/-
 The reference of rooms: what may be, what is committed.
-/
import Derived.Test.YtcpbibdbahfgaaaGreatPl13
import Derived.Test.YtcpbibdbahfgaaaGreatPl10
set_option linter.unusedVariables false
set_option linter.unusedSimpArgs false
set_option autoImplicit false
set_option maxHeartbeats 4000000
namespace Go.Proofs.YtcpbibdbahfgaaaGreat
open Go.Eng
namespace FRef6
theorem ca_35 : Callable Tryz.prog 35 := ⟨_, _, Tryz.func35, rfl, rfl⟩
theorem ca_90 : Callable Tryz.prog 90 := ⟨_, _, Tryz.func90, rfl, rfl⟩
theorem ca_37 : Callable Tryz.prog 37 := ⟨_, _, Tryz.func37, rfl, rfl⟩
theorem sl_35 : TySl Tryz.prog 35 97 5 := ⟨Tryz.underlying35, by kernel_rfl⟩
theorem fl_97_0 : Fld Tryz.prog 97 0 0 := ⟨_, _, 0, Tryz.underlying97, rfl, rfl, by kernel_rfl⟩
theorem one_9 : TyOne Tryz.prog 9 := ⟨⟨_, Tryz.underlying9, rfl⟩, by kernel_rfl⟩
theorem ca_97 : Callable Tryz.prog 97 := ⟨_, _, Tryz.func97, rfl, rfl⟩
theorem sl_138 : TySl Tryz.prog 138 135 5 := ⟨Tryz.underlying138, by kernel_rfl⟩
theorem fl_135_0 : Fld Tryz.prog 135 0 0 := ⟨_, _, 0, Tryz.underlying135, rfl, rfl, by kernel_rfl⟩
theorem one_3 : TyOne Tryz.prog 3 := ⟨⟨_, Tryz.underlying3, rfl⟩, by kernel_rfl⟩
theorem ca_116 : Callable Tryz.prog 116 := ⟨_, _, Tryz.func116, rfl, rfl⟩
theorem fl_67_1 : Fld Tryz.prog 67 1 4 := ⟨_, _, 0, Tryz.underlying67, rfl, rfl, by kernel_rfl⟩
theorem one_64 : TyOne Tryz.prog 64 := ⟨⟨_, Tryz.underlying64, rfl⟩, by kernel_rfl⟩
theorem ca_117 : Callable Tryz.prog 117 := ⟨_, _, Tryz.func117, rfl, rfl⟩
theorem ca_118 : Callable Tryz.prog 118 := ⟨_, _, Tryz.func118, rfl, rfl⟩
theorem fl_67_2 : Fld Tryz.prog 67 2 5 := ⟨_, _, 0, Tryz.underlying67, rfl, rfl, by kernel_rfl⟩
theorem one_65 : TyOne Tryz.prog 65 := ⟨⟨_, Tryz.underlying65, rfl⟩, by kernel_rfl⟩
theorem sz_65 : (Tryz.prog.info? 65).map (·.size) = some 1 := by kernel_rfl
end FRef6
open FRef6
theorem push_LR {X : RmX} {K : RfK} {T : List On} {bg : Int} {L : List Int} (H : RfH X K T bg L) (s : Int) : (pushL bg L s).1 = (pushR X.R s).1 ∧ (pushL bg L s).2.1 = (pushR X.R s).2.1 ∧ RgRel (pushR X.R s).2.2 (pushL bg L s).2.2 := by
 have hl : lastS X.R.stamps = lastS L := by
  rw [H.g.st]
  by_cases h0 : L.length = 0
  ·rw [List.length_eq_zero_iff.1 h0]; simp
  ·exact lastS_drop (by have := H.ok.rg.s1; omega)
 have hs := H.seq
 by_cases h1 : s ≤ lastS L
 ·have e1 : pushL bg L s = (0, 1, L) := if_pos h1
  have e2 : pushR X.R s = (0, 1, X.R) := by unfold pushR; rw [hl, if_pos h1]
  rw [e1, e2]; exact ⟨rfl, rfl, H.g⟩
 ·by_cases h2 : 1073741824 ≤ X.R.seq
  ·have e1 : pushL bg L s = (0, 17, L) := by unfold pushL; rw [hs, if_neg h1, if_pos h2]
   have e2 : pushR X.R s = (0, 17, X.R) := by unfold pushR; rw [hl, if_neg h1, if_pos h2]
   rw [e1, e2]; exact ⟨rfl, rfl, H.g⟩
  ·have e1 : pushL bg L s = (X.R.seq + 1, 0, L ++ [s]) := by unfold pushL; rw [hs, if_neg h1, if_neg h2]
   have e3 := push_rel H.ok.rg H.g h1 h2
   have e2 : pushR X.R s = (X.R.seq + 1, 0, (pushR X.R s).2.2) := by unfold pushR; rw [hl, if_neg h1, if_neg h2]
   rw [e1]
   refine ⟨?_, ?_, e3⟩
   ·rw [e2]
   ·rw [e2]
theorem rfCheck {b : Nat} {K : RfK} {hO : SH} {T : List On} {bg : Int} {hS : SH} {L : List Int} {X : RmX} (H : RfH X K T bg L) {A : HP} {h : SH} {ws : List Wr} (hv : Vis A (Rd eWr h ws)) (hb : ws.length ≤ 1000000) (hbits : ∀ w ∈ ws, 0 ≤ w.val.bits ∧ w.val.bits ≤ 18446744073709551615) (hbg : X.R.seq - X.R.begin < 900000) (hle : X.M.length + ws.length ≤ 100000 ∨ mayW ws = false) (seq : Int) : Does Tryz.prog 70 [.pointer (some ⟨b, 0, none⟩), h.v, .int .i64 seq] (RfL b K hO T ++ [RgP K.bG K.ring bg hS, Sl eU64 hS L, A]) (fun v l => v = .int .i64 (checkE X ws seq) ∧ l = RfL b K hO T ++ [RgP K.bG K.ring bg hS, Sl eU64 hS L, A]) := by
 refine spec_of Tryz.func70 rfl Tryz.ntmps70 Tryz.results70 _ (by simp) fun ι F => ?_
 have hsq := H.seq
 have hq := H.hq
 have hfl := H.floor
 have htn := (H.ok.tok H.m).n
 refine vc_see 5 rfl (hv.imp fun w r => r.len) (fun hlen => ?_)
 refine vc_seq ?_
 refine vc_region ?_
 refine vp ?_
 refine vc_nil ?_
 refine vc_then ?_
 refine vc_seq ?_
 refine vc_seq ?_
 refine vc_region ?_
 refine vp ?_
 refine vc_callv ca_35 (us := []) (vs := []) rfl [_] rfl [5] rfl (refMay_spec hv hb hbits) rfl ?_
 rintro _ _ ⟨rfl, rfl⟩
 refine vp ?_
 refine vc_nil ?_
 refine vc_then ?_
 first | refine vc_condP rfl (fun c11 => ?_) (fun c11 => ?_) | refine vc_condN rfl (fun c11 => ?_) (fun c11 => ?_) | refine vc_cond rfl (fun c11 => ?_) (fun c11 => ?_)
 ·skip
  have hmay : mayW ws = false := notT c11
  refine vc_seq ?_
  refine vc_region ?_
  refine vp ?_
  refine vc_nil ?_
  refine vc_then ?_
  refine vc_ret ?_
  refine vc_thenRet ?_
  exact vc_end1 Tryz.results70 rfl _ (ent_pick [1, 1, 1, 1, 1, 0] rfl) ⟨by first | (simp only [checkE, hmay, hwi, hcf, conflW, if_true]; rfl) | (simp only [checkE, hmay, hwi, hc2, hvl, decide_eq_true c48, Bool.true_or, if_true]) | (simp only [checkE, hmay, hwi]; rfl) | (simp only [checkE, hmay]; rfl), rfl⟩
 ·skip
  have hmay : mayW ws = true := notF c11
  have hle2 := hle.resolve_right (by rw [hmay]; simp)
  have hmf : mayFrom none ws = true := by simp only [mayW, Bool.and_eq_true] at hmay; exact hmay.1
  refine vc_skip ?_
  refine vc_then ?_
  refine vc_seq ?_
  refine vc_seq ?_
  refine vc_region ?_
  refine vp ?_
  refine vp ?_
  refine vc_callv ca_90 (us := []) (vs := []) rfl [_] rfl [1, 3, 3] rfl (rfFloor hq (by rw [H.ring]; exact H.ok.r1)) rfl ?_
  rintro _ _ ⟨rfl, rfl⟩
  refine vp ?_
  refine vp ?_
  first | refine vc_splitP 16 rfl (fun c16 => ?_) (fun c16 => ?_) | refine vc_splitN 16 rfl (fun c16 => ?_) (fun c16 => ?_) | refine vc_split 16 rfl (fun c16 => ?_) (fun c16 => ?_)
  ·skip
   have hwi : (decide (X.R.floor ≤ seq) && decide (seq ≤ X.R.seq)) = false := by rw [← hfl, ← hsq]; simp; omega
   refine vc_guardF 16 rfl rfl rfl rfl ?_
   refine vc_guardF 16 rfl rfl rfl rfl ?_
   refine vc_guardF 16 rfl rfl rfl rfl ?_
   refine vc_guardF 16 rfl rfl rfl rfl ?_
   refine vp ?_
   refine vc_nil ?_
   refine vc_then ?_
   refine vc_condT rfl ?_
   refine vc_seq ?_
   refine vc_region ?_
   refine vp ?_
   refine vc_nil ?_
   refine vc_then ?_
   refine vc_ret ?_
   refine vc_thenRet ?_
   exact vc_end1 Tryz.results70 rfl _ (ent_pick [0, 3, 3, 0, 0, 0] rfl) ⟨by first | (simp only [checkE, hmay, hwi, hcf, conflW, if_true]; rfl) | (simp only [checkE, hmay, hwi, hc2, hvl, decide_eq_true c48, Bool.true_or, if_true]) | (simp only [checkE, hmay, hwi]; rfl) | (simp only [checkE, hmay]; rfl), rfl⟩
  ·skip
   refine vc_guardT 16 rfl rfl ?_
   refine vp ?_
   refine vc_guardT 16 rfl rfl ?_
   refine vp ?_
   refine vc_guardT 16 rfl rfl ?_
   refine vc_callv ca_37 (us := []) (vs := []) rfl [_] rfl [0, 0, 0] rfl (rfSeq hq) rfl ?_
   rintro _ _ ⟨rfl, rfl⟩
   refine vc_guardT 16 rfl rfl ?_
   refine vp ?_
   refine vp ?_
   refine vc_nil ?_
   refine vc_then ?_
   first | refine vc_condP rfl (fun c21 => ?_) (fun c21 => ?_) | refine vc_condN rfl (fun c21 => ?_) (fun c21 => ?_) | refine vc_cond rfl (fun c21 => ?_) (fun c21 => ?_)
   ·skip
    have hwi : (decide (X.R.floor ≤ seq) && decide (seq ≤ X.R.seq)) = false := by rw [← hfl, ← hsq]; simp; omega
    refine vc_seq ?_
    refine vc_region ?_
    refine vp ?_
    refine vc_nil ?_
    refine vc_then ?_
    refine vc_ret ?_
    refine vc_thenRet ?_
    exact vc_end1 Tryz.results70 rfl _ (ent_pick [0, 3, 3, 0, 0, 0] rfl) ⟨by first | (simp only [checkE, hmay, hwi, hcf, conflW, if_true]; rfl) | (simp only [checkE, hmay, hwi, hc2, hvl, decide_eq_true c48, Bool.true_or, if_true]) | (simp only [checkE, hmay, hwi]; rfl) | (simp only [checkE, hmay]; rfl), rfl⟩
   ·skip
    have hwi : (decide (X.R.floor ≤ seq) && decide (seq ≤ X.R.seq)) = true := by rw [← hfl, ← hsq]; simp; omega
    refine vc_skip ?_
    refine vc_then ?_
    refine vc_seq ?_
    refine vc_seq ?_
    refine vc_region ?_
    refine vp ?_
    refine vc_nil ?_
    refine vc_then ?_
    refine vc_block ?_
    refine vc_loop (α := Nat) (fun xq_ => match xq_ with | i => [(0, .pointer (some ⟨b, 0, none⟩)), (1, h.v), (2, .int .i64 seq), (7, .int .i64 (i : Int))]) (fun xq_ => match xq_ with | i => RfL b K hO T ++ [RgP K.bG K.ring bg hS, Sl eU64 hS L, A]) (fun xq_ => match xq_ with | i => ws.length - i) (fun xq_ => match xq_ with | i => i ≤ ws.length ∧ conflW X.M seq ws = conflW X.M seq (ws.drop i)) 0 ⟨Nat.zero_le _, rfl⟩ ⟨rfl, rfl, rfl, rfl, trivial⟩ (ent_pick [0, 3, 3, 0, 0, 0] rfl) ?_
    rintro i ⟨hi, hcf⟩
    show VC _ _ _ _ [(0, .pointer (some ⟨b, 0, none⟩)), (1, h.v), (2, .int .i64 seq), (7, .int .i64 (i : Int))] (RfL b K hO T ++ [RgP K.bG K.ring bg hS, Sl eU64 hS L, A])
    refine vc_seq ?_
    refine vc_seq ?_
    refine vc_region ?_
    refine vp ?_
    refine vp ?_
    refine vc_y (y_len Tryz.underlying35 rfl (by first | assumption | rfl)) rfl ?_
    refine vp ?_
    refine vc_nil ?_
    refine vc_then ?_
    first | refine vc_condP rfl (fun c25 => ?_) (fun c25 => ?_) | refine vc_condN rfl (fun c25 => ?_) (fun c25 => ?_) | refine vc_cond rfl (fun c25 => ?_) (fun c25 => ?_)
    ·skip
     have hi2 : i < ws.length := by omega
     obtain ⟨c, hc⟩ : ∃ c, c = (onT T ws[i].key).2.2 := ⟨_, rfl⟩
     have hvo := onT_vis T ws[i].key
     rw [← hc] at hvo
     have hcm : chainM X.M ws[i].key = c := by rw [hc]; exact (H.chain _).symm
     have hch := H.ok.chain ws[i].key
     rw [hcm] at hch
     have hc2 : conflW X.M seq ws = ((match verLast c with | some v => decide (seq < v.seq) | none => false) || conflW X.M seq (ws.drop (i + 1))) := by rw [hcf, List.drop_eq_getElem_cons hi2, ← hcm]; rfl
     refine vc_skip ?_
     refine vc_then ?_
     refine vc_seq ?_
     refine vc_block ?_
     refine vc_seq ?_
     refine vc_region ?_
     iterate 3 refine vp ?_
     refine vc_y (y_elem 5 rfl (hv) i rfl hi2 sl_35 rfl rfl) rfl ?_
     refine vc_y (y_fieldE fl_97_0 0 rfl rfl) rfl ?_
     refine vc_y (y_load1 5 rfl one_9 rfl (Rd.vis1 (hv) (List.getElem?_eq_getElem (by first | assumption | omega)) rfl)) rfl ?_
     refine vc_callv ca_97 (us := []) (vs := []) rfl [_, _] rfl [0, 0, 0] rfl (rfChain htn ws[i].key) rfl ?_
     rintro _ _ ⟨rfl, rfl⟩
     refine vp ?_
     refine vc_nil ?_
     refine vc_then ?_
     refine vc_seq ?_
     refine vc_region ?_
     refine vc_see 2 rfl (hvo.imp fun w r => r.len) (fun hlc => ?_)
     refine vp ?_
     refine vc_y (y_len Tryz.underlying138 rfl (by first | assumption | rfl)) rfl ?_
     refine vp ?_
     refine vp ?_
     first | refine vc_splitP 38 rfl (fun c38 => ?_) (fun c38 => ?_) | refine vc_splitN 38 rfl (fun c38 => ?_) (fun c38 => ?_) | refine vc_split 38 rfl (fun c38 => ?_) (fun c38 => ?_)
     ·skip
      have hvl : verLast c = some (c[c.length - 1]'(by omega)) := by simp only [verLast, hch.1, if_true]; exact List.getElem?_eq_getElem (by omega)
      refine vc_guardT 38 rfl rfl ?_
      refine vp ?_
      refine vc_guardT 38 rfl rfl ?_
      refine vp ?_
      refine vc_guardT 38 rfl rfl ?_
      refine vc_y (y_len Tryz.underlying138 rfl (by first | assumption | rfl)) rfl ?_
      refine vc_guardT 38 rfl rfl ?_
      refine vc_y (y_arith ((c.length - 1 : Nat) : Int) rfl (wrapNsub (by omega))) rfl ?_
      refine vc_guardT 38 rfl rfl ?_
      refine vc_y (y_elem 2 rfl (hvo) (c.length - 1) rfl (by omega) sl_138 rfl rfl) rfl ?_
      refine vc_guardT 38 rfl rfl ?_
      refine vc_y (y_fieldE fl_135_0 0 rfl rfl) rfl ?_
      refine vc_guardT 38 rfl rfl ?_
      refine vc_y (y_load1 2 rfl one_3 rfl (Rd.vis1 (hvo) (List.getElem?_eq_getElem (by first | assumption | omega)) rfl)) rfl ?_
      refine vc_guardT 38 rfl rfl ?_
      refine vp ?_
      refine vc_guardT 38 rfl rfl ?_
      refine vp ?_
      refine vp ?_
      refine vc_nil ?_
      refine vc_then ?_
      first | refine vc_condP rfl (fun c48 => ?_) (fun c48 => ?_) | refine vc_condN rfl (fun c48 => ?_) (fun c48 => ?_) | refine vc_cond rfl (fun c48 => ?_) (fun c48 => ?_)
      ·skip
       refine vc_seq ?_
       refine vc_region ?_
       refine vp ?_
       refine vc_nil ?_
       refine vc_then ?_
       refine vc_ret ?_
       refine vc_inRet ?_
       refine vc_thenRet ?_
       refine vc_thenRet ?_
       refine vc_inRet ?_
       refine vc_thenRet ?_
       exact vc_end1 Tryz.results70 rfl _ (ent_pick [0, 0, 0, 0, 0, 0] rfl) ⟨by first | (simp only [checkE, hmay, hwi, hcf, conflW, if_true]; rfl) | (simp only [checkE, hmay, hwi, hc2, hvl, decide_eq_true c48, Bool.true_or, if_true]) | (simp only [checkE, hmay, hwi]; rfl) | (simp only [checkE, hmay]; rfl), rfl⟩
      ·skip
       refine vc_skip ?_
       refine vc_inNormal ?_
       refine vc_then ?_
       refine vc_region ?_
       refine vp ?_
       first | refine vc_y (y_arith _ rfl (wrapNadd (by omega))) rfl ?_ | refine vc_y (y_arith _ rfl (wrap64 (by omega) (by omega))) rfl ?_ | refine vp ?_
       refine vp ?_
       refine vc_nil ?_
       refine vc_then ?_
       exact vc_again (x := i) (i + 1) ⟨hi2, by rw [hc2, hvl]; first | rfl | (simp only [decide_eq_false c48, Bool.false_or])⟩ (by show ws.length - (i + 1) < ws.length - i; omega) ⟨rfl, rfl, rfl, rfl, trivial⟩ (ent_pick [0, 0, 0, 0, 0, 0] rfl)
     ·skip
      have hvl : verLast c = none := by rw [show c = [] from List.length_eq_zero_iff.1 (by omega)]; rfl
      refine vc_guardF 38 rfl rfl rfl rfl ?_
      refine vc_guardF 38 rfl rfl rfl rfl ?_
      refine vc_guardF 38 rfl rfl rfl rfl ?_
      refine vc_guardF 38 rfl rfl rfl rfl ?_
      refine vc_guardF 38 rfl rfl rfl rfl ?_
      refine vc_guardF 38 rfl rfl rfl rfl ?_
      refine vc_guardF 38 rfl rfl rfl rfl ?_
      refine vc_guardF 38 rfl rfl rfl rfl ?_
      refine vc_guardF 38 rfl rfl rfl rfl ?_
      refine vp ?_
      refine vc_nil ?_
      refine vc_then ?_
      refine vc_condF rfl ?_
      refine vc_skip ?_
      refine vc_inNormal ?_
      refine vc_then ?_
      refine vc_region ?_
      refine vp ?_
      first | refine vc_y (y_arith _ rfl (wrapNadd (by omega))) rfl ?_ | refine vc_y (y_arith _ rfl (wrap64 (by omega) (by omega))) rfl ?_ | refine vp ?_
      refine vp ?_
      refine vc_nil ?_
      refine vc_then ?_
      exact vc_again (x := i) (i + 1) ⟨hi2, by rw [hc2, hvl]; first | rfl | (simp only [decide_eq_false c48, Bool.false_or])⟩ (by show ws.length - (i + 1) < ws.length - i; omega) ⟨rfl, rfl, rfl, rfl, trivial⟩ (ent_pick [0, 0, 0, 0, 0, 0] rfl)
    ·skip
     obtain rfl : i = ws.length := by omega
     rw [List.drop_length] at hcf
     refine vc_exit ?_
     refine vc_thenExit ?_
     refine vc_thenExit ?_
     refine vc_inExit ?_
     refine vc_then ?_
     refine vc_seq ?_
     refine vc_region ?_
     refine vp ?_
     refine vp ?_
     refine vc_callv ca_116 (us := []) (vs := []) rfl [_, _] rfl [0, 0, 0, 0, 0, 0] rfl (rfSpace H hv hmf hbg hle2) rfl ?_
     rintro _ _ ⟨rfl, rfl⟩
     refine vp ?_
     refine vc_nil ?_
     refine vc_then ?_
     refine vc_ret ?_
     exact vc_end1 Tryz.results70 rfl _ (ent_pick [0, 0, 0, 0, 0, 0] rfl) ⟨by first | (simp only [checkE, hmay, hwi, hcf, conflW, if_true]; rfl) | (simp only [checkE, hmay, hwi, hc2, hvl, decide_eq_true c48, Bool.true_or, if_true]) | (simp only [checkE, hmay, hwi]; rfl) | (simp only [checkE, hmay]; rfl), rfl⟩
theorem rfCommit {b : Nat} {K : RfK} {hO : SH} {T : List On} {bg : Int} {hS : SH} {L : List Int} {X : RmX} (H : RfH X K T bg L) {A : HP} {h : SH} {ws : List Wr} (hv : Vis A (Rd eWr h ws)) (hb : ws.length ≤ 1000000) (hbits : ∀ w ∈ ws, 0 ≤ w.val.bits ∧ w.val.bits ≤ 18446744073709551615) (hbg : X.R.seq - X.R.begin < 900000) (hle : X.M.length + ws.length ≤ 100000 ∨ mayW ws = false) (stamp : Int) : Does Tryz.prog 68 [.pointer (some ⟨b, 0, none⟩), h.v, .int .u64 stamp] (RfL b K hO T ++ [RgP K.bG K.ring bg hS, Sl eU64 hS L, A]) (fun v l => v = .tuple #[.int .i64 (commitX X ws stamp).1, .int .i64 (commitX X ws stamp).2.1] ∧ ∃ hO' T' hS' L', RfH (commitX X ws stamp).2.2 K T' bg L' ∧ l = RfL b K hO' T' ++ [RgP K.bG K.ring bg hS', Sl eU64 hS' L', A]) := by
 refine spec_of Tryz.func68 rfl Tryz.ntmps68 Tryz.results68 _ (by simp) fun ι F => ?_
 have hsq := H.seq
 have hq := H.hq
 refine vc_seq ?_
 refine vc_region ?_
 refine vp ?_
 refine vp ?_
 refine vc_nil ?_
 refine vc_then ?_
 refine vc_seq ?_
 refine vc_seq ?_
 refine vc_region ?_
 refine vp ?_
 refine vc_callv ca_35 (us := []) (vs := []) rfl [_] rfl [5] rfl (refMay_spec hv hb hbits) rfl ?_
 rintro _ _ ⟨rfl, rfl⟩
 refine vp ?_
 refine vc_nil ?_
 refine vc_then ?_
 first | refine vc_condP rfl (fun c12 => ?_) (fun c12 => ?_) | refine vc_condN rfl (fun c12 => ?_) (fun c12 => ?_) | refine vc_cond rfl (fun c12 => ?_) (fun c12 => ?_)
 ·skip
  have hmay : mayW ws = false := notT c12
  have hco : commitX X ws stamp = (0, 1, X) := by simp [commitX, hmay]
  rw [hco]
  refine vc_seq ?_
  refine vc_region ?_
  refine vp ?_
  refine vp ?_
  refine vc_nil ?_
  refine vc_then ?_
  refine vc_ret ?_
  refine vc_thenRet ?_
  exact vc_end2 Tryz.results68 rfl rfl _ (ent_pick [1, 1, 1, 1, 1, 0] rfl) ⟨rfl, _, _, _, _, H, rfl⟩
 ·skip
  have hmay : mayW ws = true := notF c12
  have hle2 := hle.resolve_right (by rw [hmay]; simp)
  have hmf : mayFrom none ws = true := by simp only [mayW, Bool.and_eq_true] at hmay; exact hmay.1
  refine vc_skip ?_
  refine vc_then ?_
  refine vc_seq ?_
  refine vc_region ?_
  refine vp ?_
  refine vp ?_
  refine vc_callv ca_116 (us := []) (vs := []) rfl [_, _] rfl [1, 1, 1, 1, 1, 0] rfl (rfSpace H hv hmf hbg hle2) rfl ?_
  rintro _ _ ⟨rfl, rfl⟩
  refine vp ?_
  refine vc_nil ?_
  refine vc_then ?_
  refine vc_seq ?_
  refine vc_seq ?_
  refine vc_region ?_
  refine vp ?_
  refine vp ?_
  refine vc_nil ?_
  refine vc_then ?_
  first | refine vc_condP rfl (fun c17 => ?_) (fun c17 => ?_) | refine vc_condN rfl (fun c17 => ?_) (fun c17 => ?_) | refine vc_cond rfl (fun c17 => ?_) (fun c17 => ?_)
  ·skip
   have hsp : spaceE X ws ≠ 0 := by first | exact c17 | simpa using c17
   have hco : commitX X ws stamp = (0, spaceE X ws, X) := by simp [commitX, hmay, hsp]
   rw [hco]
   refine vc_seq ?_
   refine vc_region ?_
   iterate 3 refine vp ?_
   refine vc_nil ?_
   refine vc_then ?_
   refine vc_ret ?_
   refine vc_thenRet ?_
   exact vc_end2 Tryz.results68 rfl rfl _ (ent_pick [0, 0, 0, 0, 0, 0] rfl) ⟨rfl, _, _, _, _, H, rfl⟩
  ·skip
   have hsp : spaceE X ws = 0 := by first | exact c17 | simpa using c17
   refine vc_skip ?_
   refine vc_then ?_
   refine vc_seq ?_
   refine vc_region ?_
   refine vp ?_
   refine vp ?_
   refine vc_y (y_fieldP fl_67_1 4 rfl rfl) rfl ?_
   refine vc_y (y_load1 0 rfl one_64 rfl (Pts.vis rfl)) rfl ?_
   refine vp ?_
   refine vc_callv ca_117 (us := []) (vs := []) rfl [_, _] rfl [3, 3] rfl (rgPush hq stamp) rfl ?_
   rintro _ _ ⟨rfl, hS2, rfl⟩
   have hLR := push_LR H stamp
   generalize hp : pushL bg L stamp = pL at hLR ⊢
   obtain ⟨q1, q2, L2⟩ := pL
   simp only at hLR
   obtain ⟨rfl, rfl, hg⟩ := hLR
   iterate 5 refine vp ?_
   refine vc_nil ?_
   refine vc_then ?_
   refine vc_seq ?_
   refine vc_seq ?_
   refine vc_region ?_
   refine vp ?_
   refine vp ?_
   refine vc_nil ?_
   refine vc_then ?_
   first | refine vc_condP rfl (fun c29 => ?_) (fun c29 => ?_) | refine vc_condN rfl (fun c29 => ?_) (fun c29 => ?_) | refine vc_cond rfl (fun c29 => ?_) (fun c29 => ?_)
   ·skip
    have hpe : (pushR X.R stamp).2.1 ≠ 0 := by first | exact c29 | simpa using c29
    have hco : commitX X ws stamp = (0, (pushR X.R stamp).2.1, X) := by simp [commitX, hmay, hsp, hpe]
    have hpR : (pushR X.R stamp).2.2 = X.R := by
     have h0 := hpe
     unfold pushR at h0 ⊢
     split
     ·rfl
     ·split
      ·rfl
      ·rename_i h1 h2; exact absurd (by rw [if_neg h1, if_neg h2]) h0
    rw [hpR] at hg
    rw [hco]
    refine vc_seq ?_
    refine vc_region ?_
    iterate 3 refine vp ?_
    refine vc_nil ?_
    refine vc_then ?_
    refine vc_ret ?_
    refine vc_thenRet ?_
    exact vc_end2 Tryz.results68 rfl rfl _ (ent_pick [2, 2, 2, 0, 0, 0] rfl) ⟨rfl, _, _, _, _, ⟨H.ok, H.ring, H.quota, H.most, H.m, hg, H.bg⟩, rfl⟩
   ·skip
    have hpe : (pushR X.R stamp).2.1 = 0 := by first | exact c29 | simpa using c29
    obtain ⟨R', hR'⟩ : ∃ R', R' = (pushR X.R stamp).2.2 := ⟨_, rfl⟩
    have hps : R'.seq = X.R.seq + 1 ∧ R'.begin = X.R.begin ∧ R'.size = X.R.size ∧ (pushR X.R stamp).1 = R'.seq := by
     rw [hR']
     unfold pushR at hpe ⊢
     split
     ·rename_i h1; rw [if_pos h1] at hpe; cases hpe
     ·split
      ·rename_i h1 h2; rw [if_neg h1, if_pos h2] at hpe; cases hpe
      ·exact ⟨rfl, rfl, rfl, rfl⟩
    have hsm : X.R.seq < X.most := by
     unfold spaceE at hsp
     split at hsp
     ·cases hsp
     ·omega
    have hH : PutsH X R' ws := ⟨H.ok, hR' ▸ push_ok H.ok.rg stamp, hps.1, hps.2.1, hps.2.2.1, by omega, by omega, hmf, hle2⟩
    have hco : commitX X ws stamp = (R'.seq, 0, ⟨X.label, X.ring, X.quota, X.most, R', mPuts X.M R'.seq ws⟩) := by simp only [commitX, hmay, hsp, hpe, if_true]; rw [hps.2.2.2, ← hR']
    rw [hco]
    have hok := (live_puts hH ws.length (Nat.le_refl _)).1.ok
    rw [List.take_length] at hok
    rw [← hR'] at hg
    rw [hps.2.2.2]
    refine vc_skip ?_
    refine vc_then ?_
    refine vc_seq ?_
    refine vc_region ?_
    iterate 4 refine vp ?_
    refine vc_callv ca_118 (us := []) (vs := []) rfl [_, _, _] rfl [2, 2, 2, 2] rfl (rfWith hv hH H.m) rfl ?_
    rintro _ _ ⟨b2, hO2, T2, rfl, hT2, rfl⟩
    refine vp ?_
    refine vc_y (y_fieldP fl_67_2 5 rfl rfl) rfl ?_
    refine vc_y (y_load1 0 rfl one_65 rfl (Pts.vis rfl)) rfl ?_
    refine vp ?_
    refine vc_y (y_fieldP fl_67_2 5 rfl rfl) rfl ?_
    refine vc_storeP 3 rfl [_] [_, _, _, _, _, _] rfl rfl rfl sz_65 rfl rfl rfl ?_
    refine vc_nil ?_
    refine vc_then ?_
    refine vc_seq ?_
    refine vc_region ?_
    iterate 3 refine vp ?_
    refine vc_nil ?_
    refine vc_then ?_
    refine vc_ret ?_
    exact vc_end2 Tryz.results68 rfl rfl _ (ent_pick [3, 1, 1, 4, 4, 3] rfl) ⟨rfl, _, _, _, _, ⟨hok, H.ring, H.quota, H.most, hT2, hg, hps.2.1.trans H.bg⟩, rfl⟩
end Go.Proofs.YtcpbibdbahfgaaaGreat
/-
 The reference of rooms: new ones, sweeps, entries.
-/
set_option linter.unusedVariables false
set_option linter.unusedSimpArgs false
set_option autoImplicit false
set_option maxHeartbeats 4000000
namespace Go.Proofs.YtcpbibdbahfgaaaGreat
open Go.Eng
namespace FRef7
theorem one_4 : TyOne Tryz.prog 4 := ⟨⟨_, Tryz.underlying4, rfl⟩, by kernel_rfl⟩
theorem one_9 : TyOne Tryz.prog 9 := ⟨⟨_, Tryz.underlying9, rfl⟩, by kernel_rfl⟩
theorem one_34 : TyOne Tryz.prog 34 := ⟨⟨_, Tryz.underlying34, rfl⟩, by kernel_rfl⟩
theorem one_3 : TyOne Tryz.prog 3 := ⟨⟨_, Tryz.underlying3, rfl⟩, by kernel_rfl⟩
theorem ag_45 : TyAgg Tryz.prog 45 3 := ⟨⟨_, Tryz.underlying45, rfl⟩, by kernel_rfl⟩
theorem sl_52 : TySl Tryz.prog 52 56 5 := ⟨Tryz.underlying52, by kernel_rfl⟩
theorem ag_56 : TyAgg Tryz.prog 56 5 := ⟨⟨_, Tryz.underlying56, rfl⟩, by kernel_rfl⟩
theorem eg_56 : Tryz.prog.eqGuardType Tryz.prog.depth 56 = false := by kernel_rfl
theorem ag_24 : TyAgg Tryz.prog 24 4 := ⟨⟨_, Tryz.underlying24, rfl⟩, by kernel_rfl⟩
theorem fl_24_1 : Fld Tryz.prog 24 1 1 := ⟨_, _, 0, Tryz.underlying24, rfl, rfl, by kernel_rfl⟩
theorem ze_126 : (Tryz.prog.info? 126).map (·.zero) = some (some (.agg #[.int .i64 0, .int .i64 0, .slice none 0 0])) := by kernel_rfl
theorem bu_126_0_1 (v0 : Value) (v1 : Value) (h0 : v0.cells = #[v0]) (h1 : v1.cells = #[v1]) (w : World) : (Instr.build 126 #[(0, v0), (1, v1)]).run Tryz.prog w = .ok (.agg #[v0, v1, .slice none 0 0]) w := by
 have hz := @ze_126
 exact Go.Eng.run_build (pl := [(0, 1), (1, 1), (2, 1)]) hz Tryz.underlying126 (by kernel_rfl) rfl (by simp [Instr.fill, h0, h1, cells_agg]) w
theorem ze_67 : (Tryz.prog.info? 67).map (·.zero) = some (some (.agg #[.slice none 0 0, .int .i64 0, .int .i64 0, .int .i64 0, .pointer none, .slice none 0 0])) := by kernel_rfl
theorem bu_67_0_1 (v0_0 v0_1 v0_2 v0_3 : Value) (v1 : Value) (h1 : v1.cells = #[v1]) (w : World) : (Instr.build 67 #[(0, .agg #[v0_0, v0_1, v0_2, v0_3]), (1, v1)]).run Tryz.prog w = .ok (.agg #[v0_0, v0_1, v0_2, v0_3, v1, .slice none 0 0]) w := by
 have hz := @ze_67
 exact Go.Eng.run_build (pl := [(0, 4), (4, 1), (5, 1)]) hz Tryz.underlying67 (by kernel_rfl) rfl (by simp [Instr.fill, h1, cells_agg]) w
theorem sl_22 : TySl Tryz.prog 22 34 1 := ⟨Tryz.underlying22, by kernel_rfl⟩
theorem fl_24_0 : Fld Tryz.prog 24 0 0 := ⟨_, _, 0, Tryz.underlying24, rfl, rfl, by kernel_rfl⟩
theorem one_22 : TyOne Tryz.prog 22 := ⟨⟨_, Tryz.underlying22, rfl⟩, by kernel_rfl⟩
theorem ca_94 : Callable Tryz.prog 94 := ⟨_, _, Tryz.func94, rfl, rfl⟩
theorem fl_24_2 : Fld Tryz.prog 24 2 2 := ⟨_, _, 0, Tryz.underlying24, rfl, rfl, by kernel_rfl⟩
theorem fl_24_3 : Fld Tryz.prog 24 3 3 := ⟨_, _, 0, Tryz.underlying24, rfl, rfl, by kernel_rfl⟩
theorem ca_91 : Callable Tryz.prog 91 := ⟨_, _, Tryz.func91, rfl, rfl⟩
theorem sz_152 : (Tryz.prog.info? 152).map (·.size) = some 2 := by kernel_rfl
theorem ze_152 : (Tryz.prog.info? 152).map (·.zero) = some (some (.agg #[.string ⟨#[]⟩, .slice none 0 0])) := by kernel_rfl
theorem bs_65_0   (w : World) : (Instr.buildSlice 65 0 #[]).run Tryz.prog w = .ok (.slice (some ⟨w.heap.size, 0, none⟩) 0 0) { w with heap := w.heap.push (.cells #[] 152 (0, 0)) } :=
 Go.Eng.run_buildSlice Tryz.underlying65 sz_152 ze_152 (by decide) (by rw [show Array.range (0 * 2) = #[] from by decide]; simp [Instr.fill, cells_agg]) w
theorem fl_67_2 : Fld Tryz.prog 67 2 5 := ⟨_, _, 0, Tryz.underlying67, rfl, rfl, by kernel_rfl⟩
theorem one_65 : TyOne Tryz.prog 65 := ⟨⟨_, Tryz.underlying65, rfl⟩, by kernel_rfl⟩
theorem sl_65 : TySl Tryz.prog 65 152 2 := ⟨Tryz.underlying65, by kernel_rfl⟩
theorem fl_152_1 : Fld Tryz.prog 152 1 1 := ⟨_, _, 0, Tryz.underlying152, rfl, rfl, by kernel_rfl⟩
theorem one_138 : TyOne Tryz.prog 138 := ⟨⟨_, Tryz.underlying138, rfl⟩, by kernel_rfl⟩
theorem ca_90 : Callable Tryz.prog 90 := ⟨_, _, Tryz.func90, rfl, rfl⟩
theorem ca_119 : Callable Tryz.prog 119 := ⟨_, _, Tryz.func119, rfl, rfl⟩
theorem fl_152_0 : Fld Tryz.prog 152 0 0 := ⟨_, _, 0, Tryz.underlying152, rfl, rfl, by kernel_rfl⟩
theorem bu_152_0_1 (v0 : Value) (v1 : Value) (h0 : v0.cells = #[v0]) (h1 : v1.cells = #[v1]) (w : World) : (Instr.build 152 #[(0, v0), (1, v1)]).run Tryz.prog w = .ok (.agg #[v0, v1]) w := by
 have hz := @ze_152
 exact Go.Eng.run_build (pl := [(0, 1), (1, 1)]) hz Tryz.underlying152 (by kernel_rfl) rfl (by simp [Instr.fill, h0, h1, cells_agg]) w
theorem bs_65_1 (v0_0 v0_1 : Value)  (w : World) : (Instr.buildSlice 65 1 #[(0, .agg #[v0_0, v0_1])]).run Tryz.prog w = .ok (.slice (some ⟨w.heap.size, 0, none⟩) 1 1) { w with heap := w.heap.push (.cells #[v0_0, v0_1] 152 (0, 0)) } :=
 Go.Eng.run_buildSlice Tryz.underlying65 sz_152 ze_152 (by decide) (by rw [show Array.range (1 * 2) = #[0, 1] from by decide]; simp [Instr.fill, cells_agg]) w
theorem el_65_eOne : TyEl Tryz.prog 65 eOne 40 := ⟨Tryz.underlying65, .agg #[.string ⟨#[]⟩, .slice none 0 0], by kernel_rfl, rfl⟩
theorem sz_65 : (Tryz.prog.info? 65).map (·.size) = some 1 := by kernel_rfl
end FRef7
open FRef7
theorem eqd_45 (x y : Val) : ∀ w, (Op.equalIn 9999 45 (.agg x.cs.toArray) (.agg y.cs.toArray)).run Tryz.prog w = .ok (valEq x y) w := fun w => by
 rw [run_equalIn_struct w _ _ _ _ (by kernel_rfl) (by kernel_rfl)]
 unfold Program.fieldsOf
 rw [Tryz.underlying45]
 show (Op.eqFields _ _ _ [_, _, _]).run _ _ = _
 unfold valEq
 refine eqF_cons (by decide) (run_part1 one_4 rfl w) (run_part1 one_4 rfl w) (run_equalIn_bool' w _ _ _ _ Tryz.underlying4) ?_
 refine eqF_cons (by decide) (run_part1 one_9 rfl w) (run_part1 one_9 rfl w) (run_equalIn_string w _ _ _ _ Tryz.underlying9) ?_
 refine eqF_cons (by decide) (run_part1 one_34 rfl w) (run_part1 one_34 rfl w) (run_equalIn_int w _ _ .u64 .u64 _ _ Tryz.underlying34) ?_
 exact eqF_nil
theorem eqv_56 (x y : En) : ∀ w, (Op.equalIn 10000 56 (.agg x.cs.toArray) (.agg y.cs.toArray)).run Tryz.prog w = .ok (x.key.toList == y.key.toList && (x.seq == y.seq && (valEq x.val y.val && true))) w := fun w => by
 rw [run_equalIn_struct w _ _ _ _ (by kernel_rfl) (by kernel_rfl)]
 unfold Program.fieldsOf
 rw [Tryz.underlying56]
 show (Op.eqFields _ _ _ [_, _, _]).run _ _ = _
 refine eqF_cons (by decide) (run_part1 one_9 rfl w) (run_part1 one_9 rfl w) (run_equalIn_string w _ _ _ _ Tryz.underlying9) ?_
 refine eqF_cons (by decide) (run_part1 one_3 rfl w) (run_part1 one_3 rfl w) (run_equalIn_int w _ _ .i64 .i64 _ _ Tryz.underlying3) ?_
 refine eqF_cons (by decide) (run_partA ag_45 _ _ w) (run_partA ag_45 _ _ w) (eqd_45 x.val y.val w) ?_
 exact eqF_nil
theorem valEq_self (x : Val) : valEq x x = true := by simp [valEq]
theorem refSame_spec {A B : HP} {h g : SH} {xs : List En} (hv : Vis A (Rd eEn h xs)) (hv2 : Vis B (Rd eEn g xs)) (hb : xs.length ≤ 1000000) : Does Tryz.prog 25 [h.v, g.v] [A, B] (fun v l => v = .bool true ∧ l = [A, B]) := by
 refine spec_of Tryz.func25 rfl Tryz.ntmps25 Tryz.results25 _ (by simp) fun ι F => ?_
 refine vc_see 0 rfl (hv.imp fun w r => r.len) (fun hlen => ?_)
 refine vc_see 1 rfl (hv2.imp fun w r => r.len) (fun hlen2 => ?_)
 refine vc_seq ?_
 refine vc_region ?_
 refine vp ?_
 refine vc_nil ?_
 refine vc_then ?_
 refine vc_seq ?_
 refine vc_seq ?_
 refine vc_region ?_
 refine vp ?_
 refine vc_y (y_len Tryz.underlying52 rfl (by first | assumption | rfl)) rfl ?_
 refine vp ?_
 refine vc_y (y_len Tryz.underlying52 rfl (by first | assumption | rfl)) rfl ?_
 refine vp ?_
 refine vc_nil ?_
 refine vc_then ?_
 first | refine vc_condP rfl (fun c10 => ?_) (fun c10 => ?_) | refine vc_condN rfl (fun c10 => ?_) (fun c10 => ?_) | refine vc_cond rfl (fun c10 => ?_) (fun c10 => ?_)
 ·skip
  simp at c10
 ·skip
  refine vc_skip ?_
  refine vc_then ?_
  refine vc_seq ?_
  refine vc_seq ?_
  refine vc_region ?_
  refine vp ?_
  refine vc_nil ?_
  refine vc_then ?_
  refine vc_block ?_
  refine vc_loop (α := Nat) (fun xq_ => match xq_ with | i => [(0, h.v), (1, g.v), (5, .int .i64 (i : Int))]) (fun xq_ => match xq_ with | i => [A, B]) (fun xq_ => match xq_ with | i => xs.length - i) (fun xq_ => match xq_ with | i => i ≤ xs.length) 0 (Nat.zero_le _) ⟨rfl, rfl, rfl, trivial⟩ (ent_pick [0, 0] rfl) ?_
  rintro i hi
  show VC _ _ _ _ [(0, h.v), (1, g.v), (5, .int .i64 (i : Int))] ([A, B])
  refine vc_seq ?_
  refine vc_seq ?_
  refine vc_region ?_
  refine vp ?_
  refine vp ?_
  refine vc_y (y_len Tryz.underlying52 rfl (by first | assumption | rfl)) rfl ?_
  refine vp ?_
  refine vc_nil ?_
  refine vc_then ?_
  first | refine vc_condP rfl (fun c14 => ?_) (fun c14 => ?_) | refine vc_condN rfl (fun c14 => ?_) (fun c14 => ?_) | refine vc_cond rfl (fun c14 => ?_) (fun c14 => ?_)
  ·skip
   have hi2 : i < xs.length := by omega
   refine vc_skip ?_
   refine vc_then ?_
   refine vc_seq ?_
   refine vc_block ?_
   refine vc_seq ?_
   refine vc_draw (by kernel_rfl) _ none [0, 0] rfl ?_
   refine tpp 0 ?_
   refine tpp 1 ?_
   refine tk 2 rfl (by exact y_elem 0 rfl (hv) i rfl hi2 sl_52 rfl rfl) ?_
   refine tk 3 rfl (by exact y_loadA 0 rfl (cs := [_, _, _, _, _]) ag_56 rfl (Rd.visA (hv) (List.getElem?_eq_getElem (by first | assumption | omega)) rfl)) ?_
   refine tpp 4 ?_
   refine tpp 5 ?_
   refine tk 6 rfl (by exact y_elem 1 rfl (hv2) i rfl hi2 sl_52 rfl rfl) ?_
   refine tk 7 rfl (by exact y_loadA 1 rfl (cs := [_, _, _, _, _]) ag_56 rfl (Rd.visA (hv2) (List.getElem?_eq_getElem (by first | assumption | omega)) rfl)) ?_
   refine tp 8 rfl (by exact y_neS eg_56 (eqv_56 xs[i] xs[i]) rfl rfl) ?_
   refine va_done (by kernel_rfl) ?_
   refine vc_then ?_
   first | refine vc_condP rfl (fun c25 => ?_) (fun c25 => ?_) | refine vc_condN rfl (fun c25 => ?_) (fun c25 => ?_) | refine vc_cond rfl (fun c25 => ?_) (fun c25 => ?_)
   ·skip
    simp [valEq_self] at c25
   ·skip
    refine vc_skip ?_
    refine vc_inNormal ?_
    refine vc_then ?_
    refine vc_region ?_
    refine vp ?_
    first | refine vc_y (y_arith _ rfl (wrapNadd (by omega))) rfl ?_ | refine vc_y (y_arith _ rfl (wrap64 (by omega) (by omega))) rfl ?_ | refine vp ?_
    refine vp ?_
    refine vc_nil ?_
    refine vc_then ?_
    exact vc_again (x := i) (i + 1) hi2 (by show xs.length - (i + 1) < xs.length - i; omega) ⟨rfl, rfl, rfl, trivial⟩ (ent_pick [0, 0] rfl)
  ·skip
   refine vc_exit ?_
   refine vc_thenExit ?_
   refine vc_thenExit ?_
   refine vc_inExit ?_
   refine vc_then ?_
   refine vc_seq ?_
   refine vc_region ?_
   refine vp ?_
   refine vc_nil ?_
   refine vc_then ?_
   refine vc_ret ?_
   exact vc_end1 Tryz.results25 rfl _ (ent_pick [0, 0] rfl) ⟨rfl, rfl⟩
theorem refNew_spec {hl : SH} (ring quota most seq : Int) : Does Tryz.prog 12 [.agg #[hl.v, .int .i64 ring, .int .i64 quota, .int .i64 most], .int .i64 seq] [] (fun v l => ∃ b bG, v = .pointer (some ⟨b, 0, none⟩) ∧ l = RfL b ⟨hl, ring, quota, most, bG⟩ nilS [] ++ [RgP bG ring seq nilS, Sl eU64 nilS []]) := by
 refine spec_of Tryz.func12 rfl Tryz.ntmps12 Tryz.results12 _ (by simp) fun ι F => ?_
 refine vc_seq ?_
 refine vc_region ?_
 refine vc_box [_, _, _, _] rfl rfl rfl (fun b2 => ?_)
 refine vp ?_
 refine vc_nil ?_
 refine vc_then ?_
 refine vc_seq ?_
 refine vc_region ?_
 refine vc_y (y_loadA 0 rfl (cs := [_, _, _, _]) ag_24 rfl (Pts.visA rfl)) rfl ?_
 refine vc_y (y_fieldP fl_24_1 1 rfl rfl) rfl ?_
 refine vc_y (y_load1 0 rfl one_3 rfl (Pts.vis rfl)) rfl ?_
 refine vp ?_
 refine vc_y (y_build [(0, _), (1, _)] [_, _, _] rfl (bu_126_0_1 _ _ rfl rfl)) rfl ?_
 refine vc_box [_, _, _] rfl rfl rfl (fun b10 => ?_)
 refine vc_y (y_build [(0, _), (1, _)] [_, _, _, _, _, _] rfl (bu_67_0_1 _ _ _ _ _ rfl)) rfl ?_
 refine vc_box [_, _, _, _, _, _] rfl rfl rfl (fun b12 => ?_)
 refine vp ?_
 refine vc_nil ?_
 refine vc_then ?_
 refine vc_ret ?_
 exact vc_end1 Tryz.results12 rfl _ ((ent_at [0, 0] rfl (ent_cons ((Ent.empL.trans (Ent.sep RoSl.nil Ent.rfl)).trans (ent_cons ((Ent.empL.trans (Ent.sep RoM.nil Ent.rfl)).trans (ent_cons (ent_cons sl_new)))))))) ⟨b12, b10, rfl, rfl⟩
theorem refLRight_spec {A : HP} {h : SH} {xs : List Int} (hv : Vis A (Rd eU64 h xs)) (hp : ∀ t ∈ xs, 0 ≤ t) (hb : xs.length ≤ 1000000) : Does Tryz.prog 94 [h.v] [A] (fun v l => v = .bool (labelRight xs) ∧ l = [A]) := by
 refine spec_of Tryz.func94 rfl Tryz.ntmps94 Tryz.results94 _ (by simp) fun ι F => ?_
 refine vc_see 0 rfl (hv.imp fun w r => r.len) (fun hlen => ?_)
 refine vc_seq ?_
 refine vc_region ?_
 refine vp ?_
 refine vc_nil ?_
 refine vc_then ?_
 refine vc_seq ?_
 refine vc_seq ?_
 refine vc_region ?_
 refine vp ?_
 refine vc_nil ?_
 refine vc_then ?_
 refine vc_block ?_
 refine vc_loop (α := Nat) (fun xq_ => match xq_ with | i => [(0, h.v), (3, .int .i64 (i : Int))]) (fun xq_ => match xq_ with | i => [A]) (fun xq_ => match xq_ with | i => xs.length - i) (fun xq_ => match xq_ with | i => i ≤ xs.length ∧ tagFrom 0 xs = tagFrom (lastT xs i) (xs.drop i)) 0 ⟨Nat.zero_le _, rfl⟩ ⟨rfl, rfl, trivial⟩ (ent_pick [0] rfl) ?_
 rintro i ⟨hi, hch⟩
 show VC _ _ _ _ [(0, h.v), (3, .int .i64 (i : Int))] ([A])
 refine vc_seq ?_
 refine vc_seq ?_
 refine vc_region ?_
 refine vp ?_
 refine vp ?_
 refine vc_y (y_len Tryz.underlying22 rfl (by first | assumption | rfl)) rfl ?_
 refine vp ?_
 refine vc_nil ?_
 refine vc_then ?_
 first | refine vc_condP rfl (fun c7 => ?_) (fun c7 => ?_) | refine vc_condN rfl (fun c7 => ?_) (fun c7 => ?_) | refine vc_cond rfl (fun c7 => ?_) (fun c7 => ?_)
 ·skip
  have hi2 : i < xs.length := by omega
  have hp2 := hp _ (List.getElem_mem hi2)
  have hch2 : tagFrom 0 xs = (decide (lastT xs i < xs[i]) && tagFrom xs[i] (xs.drop (i + 1))) := by rw [hch, List.drop_eq_getElem_cons hi2]; rfl
  refine vc_skip ?_
  refine vc_then ?_
  refine vc_seq ?_
  refine vc_block ?_
  refine vc_seq ?_
  refine vc_draw (by kernel_rfl) _ none [0] rfl ?_
  refine tpp 0 ?_
  refine tpp 1 ?_
  refine tk 2 rfl (by exact y_elem 0 rfl (hv) i rfl hi2 sl_22 rfl rfl) ?_
  refine tk 3 rfl (by exact y_load1 0 rfl one_34 rfl (Rd.vis1 (hv) (List.getElem?_eq_getElem (by first | assumption | omega)) rfl)) ?_
  refine tpp 4 ?_
  refine tpp 5 ?_
  first | refine va_splitP 15 rfl (fun c15 => ?_) (fun c15 => ?_) | refine va_splitN 15 rfl (fun c15 => ?_) (fun c15 => ?_) | refine va_split 15 rfl (fun c15 => ?_) (fun c15 => ?_)
  ·skip
   have hlt0 : 0 ≤ lastT xs i := by
    cases i with
    | zero => exact Int.le_refl _
    | succ k => rw [lastT_succ (by omega)]; exact hp _ (List.getElem_mem (by omega))
   refine sk 6 15 ?_
   refine sk 7 15 ?_
   refine sk 8 15 ?_
   refine sku 9 18 ?_
   refine sku 10 18 ?_
   refine sku 11 18 ?_
   refine sku 12 18 ?_
   refine sku 13 18 ?_
   refine sku 14 18 ?_
   refine sku 15 18 ?_
   refine sku 16 18 ?_
   refine sku 17 18 ?_
   refine sku 18 18 ?_
   refine sk 19 15 ?_
   refine tpp 20 ?_
   refine va_done (by kernel_rfl) ?_
   refine vc_then ?_
   refine vc_condT rfl ?_
   refine vc_seq ?_
   refine vc_region ?_
   refine vp ?_
   refine vc_nil ?_
   refine vc_then ?_
   refine vc_ret ?_
   refine vc_inRet ?_
   refine vc_thenRet ?_
   refine vc_thenRet ?_
   refine vc_inRet ?_
   refine vc_thenRet ?_
   exact vc_end1 Tryz.results94 rfl _ (ent_pick [0] rfl) ⟨by first | (unfold labelRight; rw [hch2, show decide (lastT xs i < xs[i]) = false from decide_eq_false (by omega)]; simp; done) | (unfold labelRight; rw [hch]; simp [tagFrom]), rfl⟩
  ·skip
   refine tgp 6 15 ?_
   refine tgp 7 15 ?_
   refine tgp 8 15 ?_
   first | refine va_splitP 18 rfl (fun c18 => ?_) (fun c18 => ?_) | refine va_splitN 18 rfl (fun c18 => ?_) (fun c18 => ?_) | refine va_split 18 rfl (fun c18 => ?_) (fun c18 => ?_)
   ·skip
    have hls : lastT xs i = xs[i - 1]'(by omega) := by
     have := lastT_succ (l := xs) (i := i - 1) (by omega)
     rwa [show i - 1 + 1 = i by omega] at this
    have hp3 := hp _ (List.getElem_mem (show i - 1 < xs.length by omega))
    refine tgp 9 18 ?_
    refine tgp 10 18 ?_
    refine tg 11 18 rfl (by exact y_arith ((i - 1 : Nat) : Int) rfl (wrapNsub (by omega))) ?_
    refine tkg 12 18 rfl (by exact y_elem 0 rfl (hv) (i - 1) rfl (by omega) sl_22 rfl rfl) ?_
    refine tkg 13 18 rfl (by exact y_load1 0 rfl one_34 rfl (Rd.vis1 (hv) (List.getElem?_eq_getElem (by first | assumption | omega)) rfl)) ?_
    refine tgp 14 18 ?_
    refine tgp 15 18 ?_
    refine tkg 16 18 rfl (by exact y_elem 0 rfl (hv) i rfl hi2 sl_22 rfl rfl) ?_
    refine tkg 17 18 rfl (by exact y_load1 0 rfl one_34 rfl (Rd.vis1 (hv) (List.getElem?_eq_getElem (by first | assumption | omega)) rfl)) ?_
    refine tgp 18 18 ?_
    refine tgp 19 15 ?_
    refine tpp 20 ?_
    refine va_done (by kernel_rfl) ?_
    refine vc_then ?_
    first | refine vc_condP rfl (fun c30 => ?_) (fun c30 => ?_) | refine vc_condN rfl (fun c30 => ?_) (fun c30 => ?_) | refine vc_cond rfl (fun c30 => ?_) (fun c30 => ?_)
    ·skip
     refine vc_seq ?_
     refine vc_region ?_
     refine vp ?_
     refine vc_nil ?_
     refine vc_then ?_
     refine vc_ret ?_
     refine vc_inRet ?_
     refine vc_thenRet ?_
     refine vc_thenRet ?_
     refine vc_inRet ?_
     refine vc_thenRet ?_
     exact vc_end1 Tryz.results94 rfl _ (ent_pick [0] rfl) ⟨by first | (unfold labelRight; rw [hch2, show decide (lastT xs i < xs[i]) = false from decide_eq_false (by omega)]; simp; done) | (unfold labelRight; rw [hch]; simp [tagFrom]), rfl⟩
    ·skip
     refine vc_skip ?_
     refine vc_inNormal ?_
     refine vc_then ?_
     refine vc_region ?_
     refine vp ?_
     first | refine vc_y (y_arith _ rfl (wrapNadd (by omega))) rfl ?_ | refine vc_y (y_arith _ rfl (wrap64 (by omega) (by omega))) rfl ?_ | refine vp ?_
     refine vp ?_
     refine vc_nil ?_
     refine vc_then ?_
     exact vc_again (x := i) (i + 1) ⟨hi2, by rw [hch2, lastT_succ hi2, decide_eq_true (by omega)]; rfl⟩ (by show xs.length - (i + 1) < xs.length - i; omega) ⟨rfl, rfl, trivial⟩ (ent_pick [0] rfl)
   ·skip
    have hls : lastT xs i = 0 := by
     obtain rfl : i = 0 := by omega
     rfl
    refine sk 9 18 ?_
    refine sk 10 18 ?_
    refine sk 11 18 ?_
    refine sk 12 18 ?_
    refine sk 13 18 ?_
    refine sk 14 18 ?_
    refine sk 15 18 ?_
    refine sk 16 18 ?_
    refine sk 17 18 ?_
    refine sk 18 18 ?_
    refine tgp 19 15 ?_
    refine tpp 20 ?_
    refine va_done (by kernel_rfl) ?_
    refine vc_then ?_
    refine vc_condF rfl ?_
    refine vc_skip ?_
    refine vc_inNormal ?_
    refine vc_then ?_
    refine vc_region ?_
    refine vp ?_
    first | refine vc_y (y_arith _ rfl (wrapNadd (by omega))) rfl ?_ | refine vc_y (y_arith _ rfl (wrap64 (by omega) (by omega))) rfl ?_ | refine vp ?_
    refine vp ?_
    refine vc_nil ?_
    refine vc_then ?_
    exact vc_again (x := i) (i + 1) ⟨hi2, by rw [hch2, lastT_succ hi2, decide_eq_true (by omega)]; rfl⟩ (by show xs.length - (i + 1) < xs.length - i; omega) ⟨rfl, rfl, trivial⟩ (ent_pick [0] rfl)
 ·skip
  obtain rfl : i = xs.length := by omega
  rw [List.drop_length] at hch
  refine vc_exit ?_
  refine vc_thenExit ?_
  refine vc_thenExit ?_
  refine vc_inExit ?_
  refine vc_then ?_
  refine vc_seq ?_
  refine vc_region ?_
  refine vp ?_
  refine vc_y (y_len Tryz.underlying22 rfl (by first | assumption | rfl)) rfl ?_
  refine vp ?_
  refine vp ?_
  refine vc_nil ?_
  refine vc_then ?_
  refine vc_ret ?_
  exact vc_end1 Tryz.results94 rfl _ (ent_pick [0] rfl) ⟨by first | (unfold labelRight; rw [hch2, show decide (lastT xs i < xs[i]) = false from decide_eq_false (by omega)]; simp; done) | (unfold labelRight; rw [hch]; simp [tagFrom]), rfl⟩
theorem refRRight_spec {A : HP} {h : SH} {xs : List Int} (hv : Vis A (Rd eU64 h xs)) (hp : ∀ t ∈ xs, 0 ≤ t) (hb : xs.length ≤ 1000000) (ring quota most : Int) : Does Tryz.prog 31 [.agg #[h.v, .int .i64 ring, .int .i64 quota, .int .i64 most]] [A] (fun v l => v = .bool (setRight xs ring quota most) ∧ l = [A]) := by
 refine spec_of Tryz.func31 rfl Tryz.ntmps31 Tryz.results31 _ (by simp) fun ι F => ?_
 refine vc_seq ?_
 refine vc_region ?_
 refine vc_box [_, _, _, _] rfl rfl rfl (fun b1 => ?_)
 refine vp ?_
 refine vc_nil ?_
 refine vc_then ?_
 refine vc_seq ?_
 refine vc_region ?_
 refine vc_y (y_fieldP fl_24_0 0 rfl rfl) rfl ?_
 refine vc_y (y_load1 0 rfl one_22 rfl (Pts.vis rfl)) rfl ?_
 refine vc_callv ca_94 (us := []) (vs := []) rfl [_] rfl [1] rfl (refLRight_spec hv hp hb) rfl ?_
 rintro _ _ ⟨rfl, rfl⟩
 refine vp ?_
 first | refine vc_splitP 6 rfl (fun c6 => ?_) (fun c6 => ?_) | refine vc_splitN 6 rfl (fun c6 => ?_) (fun c6 => ?_) | refine vc_split 6 rfl (fun c6 => ?_) (fun c6 => ?_)
 ·skip
  refine vc_guardT 6 rfl rfl ?_
  refine vc_y (y_fieldP fl_24_1 1 rfl rfl) rfl ?_
  refine vc_guardT 6 rfl rfl ?_
  refine vc_y (y_load1 1 rfl one_3 rfl (Pts.vis rfl)) rfl ?_
  refine vc_guardT 6 rfl rfl ?_
  iterate 3 refine vp ?_
  first | refine vc_splitP 11 rfl (fun c11 => ?_) (fun c11 => ?_) | refine vc_splitN 11 rfl (fun c11 => ?_) (fun c11 => ?_) | refine vc_split 11 rfl (fun c11 => ?_) (fun c11 => ?_)
  ·skip
   refine vc_guardT 11 rfl rfl ?_
   refine vc_y (y_fieldP fl_24_1 1 rfl rfl) rfl ?_
   refine vc_guardT 11 rfl rfl ?_
   refine vc_y (y_load1 1 rfl one_3 rfl (Pts.vis rfl)) rfl ?_
   refine vc_guardT 11 rfl rfl ?_
   iterate 3 refine vp ?_
   first | refine vc_splitP 16 rfl (fun c16 => ?_) (fun c16 => ?_) | refine vc_splitN 16 rfl (fun c16 => ?_) (fun c16 => ?_) | refine vc_split 16 rfl (fun c16 => ?_) (fun c16 => ?_)
   ·skip
    refine vc_guardT 16 rfl rfl ?_
    refine vc_y (y_fieldP fl_24_2 2 rfl rfl) rfl ?_
    refine vc_guardT 16 rfl rfl ?_
    refine vc_y (y_load1 1 rfl one_3 rfl (Pts.vis rfl)) rfl ?_
    refine vc_guardT 16 rfl rfl ?_
    iterate 3 refine vp ?_
    first | refine vc_splitP 21 rfl (fun c21 => ?_) (fun c21 => ?_) | refine vc_splitN 21 rfl (fun c21 => ?_) (fun c21 => ?_) | refine vc_split 21 rfl (fun c21 => ?_) (fun c21 => ?_)
    ·skip
     refine vc_guardT 21 rfl rfl ?_
     refine vc_y (y_fieldP fl_24_2 2 rfl rfl) rfl ?_
     refine vc_guardT 21 rfl rfl ?_
     refine vc_y (y_load1 1 rfl one_3 rfl (Pts.vis rfl)) rfl ?_
     refine vc_guardT 21 rfl rfl ?_
     iterate 3 refine vp ?_
     first | refine vc_splitP 26 rfl (fun c26 => ?_) (fun c26 => ?_) | refine vc_splitN 26 rfl (fun c26 => ?_) (fun c26 => ?_) | refine vc_split 26 rfl (fun c26 => ?_) (fun c26 => ?_)
     ·skip
      refine vc_guardT 26 rfl rfl ?_
      refine vc_y (y_fieldP fl_24_3 3 rfl rfl) rfl ?_
      refine vc_guardT 26 rfl rfl ?_
      refine vc_y (y_load1 1 rfl one_3 rfl (Pts.vis rfl)) rfl ?_
      refine vc_guardT 26 rfl rfl ?_
      iterate 3 refine vp ?_
      first | refine vc_splitP 31 rfl (fun c31 => ?_) (fun c31 => ?_) | refine vc_splitN 31 rfl (fun c31 => ?_) (fun c31 => ?_) | refine vc_split 31 rfl (fun c31 => ?_) (fun c31 => ?_)
      ·skip
       refine vc_guardT 31 rfl rfl ?_
       refine vc_y (y_fieldP fl_24_3 3 rfl rfl) rfl ?_
       refine vc_guardT 31 rfl rfl ?_
       refine vc_y (y_load1 1 rfl one_3 rfl (Pts.vis rfl)) rfl ?_
       refine vc_guardT 31 rfl rfl ?_
       iterate 3 refine vp ?_
       refine vc_nil ?_
       refine vc_then ?_
       refine vc_ret ?_
       exact vc_end1 Tryz.results31 rfl _ (ent_pick [0] rfl) ⟨by simp [setRight, *], rfl⟩
      ·skip
       refine vc_guardF 31 rfl rfl rfl rfl ?_
       refine vc_guardF 31 rfl rfl rfl rfl ?_
       refine vc_guardF 31 rfl rfl rfl rfl ?_
       refine vp ?_
       refine vp ?_
       refine vc_nil ?_
       refine vc_then ?_
       refine vc_ret ?_
       exact vc_end1 Tryz.results31 rfl _ (ent_pick [0] rfl) ⟨by simp [setRight, *], rfl⟩
     ·skip
      refine vc_guardF 26 rfl rfl rfl rfl ?_
      refine vc_guardF 26 rfl rfl rfl rfl ?_
      refine vc_guardF 26 rfl rfl rfl rfl ?_
      refine vp ?_
      refine vp ?_
      refine vc_guardF 31 rfl rfl rfl rfl ?_
      refine vc_guardF 31 rfl rfl rfl rfl ?_
      refine vc_guardF 31 rfl rfl rfl rfl ?_
      refine vp ?_
      refine vp ?_
      refine vc_nil ?_
      refine vc_then ?_
      refine vc_ret ?_
      exact vc_end1 Tryz.results31 rfl _ (ent_pick [0] rfl) ⟨by simp [setRight, *], rfl⟩
    ·skip
     refine vc_guardF 21 rfl rfl rfl rfl ?_
     refine vc_guardF 21 rfl rfl rfl rfl ?_
     refine vc_guardF 21 rfl rfl rfl rfl ?_
     refine vp ?_
     refine vp ?_
     refine vc_guardF 26 rfl rfl rfl rfl ?_
     refine vc_guardF 26 rfl rfl rfl rfl ?_
     refine vc_guardF 26 rfl rfl rfl rfl ?_
     refine vp ?_
     refine vp ?_
     refine vc_guardF 31 rfl rfl rfl rfl ?_
     refine vc_guardF 31 rfl rfl rfl rfl ?_
     refine vc_guardF 31 rfl rfl rfl rfl ?_
     refine vp ?_
     refine vp ?_
     refine vc_nil ?_
     refine vc_then ?_
     refine vc_ret ?_
     exact vc_end1 Tryz.results31 rfl _ (ent_pick [0] rfl) ⟨by simp [setRight, *], rfl⟩
   ·skip
    refine vc_guardF 16 rfl rfl rfl rfl ?_
    refine vc_guardF 16 rfl rfl rfl rfl ?_
    refine vc_guardF 16 rfl rfl rfl rfl ?_
    refine vp ?_
    refine vp ?_
    refine vc_guardF 21 rfl rfl rfl rfl ?_
    refine vc_guardF 21 rfl rfl rfl rfl ?_
    refine vc_guardF 21 rfl rfl rfl rfl ?_
    refine vp ?_
    refine vp ?_
    refine vc_guardF 26 rfl rfl rfl rfl ?_
    refine vc_guardF 26 rfl rfl rfl rfl ?_
    refine vc_guardF 26 rfl rfl rfl rfl ?_
    refine vp ?_
    refine vp ?_
    refine vc_guardF 31 rfl rfl rfl rfl ?_
    refine vc_guardF 31 rfl rfl rfl rfl ?_
    refine vc_guardF 31 rfl rfl rfl rfl ?_
    refine vp ?_
    refine vp ?_
    refine vc_nil ?_
    refine vc_then ?_
    refine vc_ret ?_
    exact vc_end1 Tryz.results31 rfl _ (ent_pick [0] rfl) ⟨by simp [setRight, *], rfl⟩
  ·skip
   refine vc_guardF 11 rfl rfl rfl rfl ?_
   refine vc_guardF 11 rfl rfl rfl rfl ?_
   refine vc_guardF 11 rfl rfl rfl rfl ?_
   refine vp ?_
   refine vp ?_
   refine vc_guardF 16 rfl rfl rfl rfl ?_
   refine vc_guardF 16 rfl rfl rfl rfl ?_
   refine vc_guardF 16 rfl rfl rfl rfl ?_
   refine vp ?_
   refine vp ?_
   refine vc_guardF 21 rfl rfl rfl rfl ?_
   refine vc_guardF 21 rfl rfl rfl rfl ?_
   refine vc_guardF 21 rfl rfl rfl rfl ?_
   refine vp ?_
   refine vp ?_
   refine vc_guardF 26 rfl rfl rfl rfl ?_
   refine vc_guardF 26 rfl rfl rfl rfl ?_
   refine vc_guardF 26 rfl rfl rfl rfl ?_
   refine vp ?_
   refine vp ?_
   refine vc_guardF 31 rfl rfl rfl rfl ?_
   refine vc_guardF 31 rfl rfl rfl rfl ?_
   refine vc_guardF 31 rfl rfl rfl rfl ?_
   refine vp ?_
   refine vp ?_
   refine vc_nil ?_
   refine vc_then ?_
   refine vc_ret ?_
   exact vc_end1 Tryz.results31 rfl _ (ent_pick [0] rfl) ⟨by simp [setRight, *], rfl⟩
 ·skip
  refine vc_guardF 6 rfl rfl rfl rfl ?_
  refine vc_guardF 6 rfl rfl rfl rfl ?_
  refine vc_guardF 6 rfl rfl rfl rfl ?_
  refine vp ?_
  refine vp ?_
  refine vc_guardF 11 rfl rfl rfl rfl ?_
  refine vc_guardF 11 rfl rfl rfl rfl ?_
  refine vc_guardF 11 rfl rfl rfl rfl ?_
  refine vp ?_
  refine vp ?_
  refine vc_guardF 16 rfl rfl rfl rfl ?_
  refine vc_guardF 16 rfl rfl rfl rfl ?_
  refine vc_guardF 16 rfl rfl rfl rfl ?_
  refine vp ?_
  refine vp ?_
  refine vc_guardF 21 rfl rfl rfl rfl ?_
  refine vc_guardF 21 rfl rfl rfl rfl ?_
  refine vc_guardF 21 rfl rfl rfl rfl ?_
  refine vp ?_
  refine vp ?_
  refine vc_guardF 26 rfl rfl rfl rfl ?_
  refine vc_guardF 26 rfl rfl rfl rfl ?_
  refine vc_guardF 26 rfl rfl rfl rfl ?_
  refine vp ?_
  refine vp ?_
  refine vc_guardF 31 rfl rfl rfl rfl ?_
  refine vc_guardF 31 rfl rfl rfl rfl ?_
  refine vc_guardF 31 rfl rfl rfl rfl ?_
  refine vp ?_
  refine vp ?_
  refine vc_nil ?_
  refine vc_then ?_
  refine vc_ret ?_
  exact vc_end1 Tryz.results31 rfl _ (ent_pick [0] rfl) ⟨by simp [setRight, *], rfl⟩
theorem rfSweep {b : Nat} {K : RfK} {hO : SH} {T : List On} {bg : Int} {hS : SH} {L : List Int} {X : RmX} (H : RfH X K T bg L) : Does Tryz.prog 69 [.pointer (some ⟨b, 0, none⟩)] (RfL b K hO T ++ [RgP K.bG K.ring bg hS, Sl eU64 hS L]) (fun v l => v = .int .i64 (versM X.M - versM (sweepM X.M X.R.floor)) ∧ ∃ hO' T', RfH (swX X) K T' bg L ∧ l = RfL b K hO' T' ++ [RgP K.bG K.ring bg hS, Sl eU64 hS L]) := by
 refine spec_of Tryz.func69 rfl Tryz.ntmps69 Tryz.results69 _ (by simp) fun ι F => ?_
 have hq := H.hq
 have hT := H.ok.tok H.m
 have hb3 := hT.n
 have hfl := H.floor
 have hvs := hT.vers
 refine vc_see 1 rfl (RoSl.vis.imp fun w r => r.len) (fun hlen => ?_)
 refine vc_seq ?_
 refine vc_region ?_
 refine vp ?_
 refine vc_nil ?_
 refine vc_then ?_
 refine vc_seq ?_
 refine vc_region ?_
 refine vp ?_
 refine vc_callv ca_91 (us := []) (vs := []) rfl [_] rfl [0, 0, 0] rfl (rfVers hT) rfl ?_
 rintro _ _ ⟨rfl, rfl⟩
 refine vp ?_
 refine vc_nil ?_
 refine vc_then ?_
 refine vc_seq ?_
 refine vc_region ?_
 refine vc_buildSlice (E := eOne) [] [] rfl rfl (bs_65_0  ) rfl (fun h9 => ?_)
 refine vp ?_
 refine vc_nil ?_
 refine vc_then ?_
 refine vc_seq ?_
 refine vc_seq ?_
 refine vc_region ?_
 refine vc_ent (l' := RoM [] :: _) (Ent.empL.trans (Ent.sep RoM.nil Ent.rfl)) ?_
 refine vp ?_
 refine vc_nil ?_
 refine vc_then ?_
 refine vc_block ?_
 refine vc_loop (α := Nat × SH × List On) (fun xq_ => match xq_ with | (i, hh, U) => [(0, .pointer (some ⟨b, 0, none⟩)), (3, .int .i64 (versM (mpT T))), (4, hh.v), (5, .int .i64 (i : Int))]) (fun xq_ => match xq_ with | (i, hh, U) => RfL b K hO T ++ [RgP K.bG K.ring bg hS, Sl eU64 hS L] ++ [Sl eOne hh U, RoM U]) (fun xq_ => match xq_ with | (i, hh, U) => T.length - i) (fun xq_ => match xq_ with | (i, hh, U) => i ≤ T.length ∧ mpT U = sweepM (mpT (T.take i)) X.R.floor ∧ U.length ≤ i) (0, h9, []) ⟨Nat.zero_le _, rfl, Nat.le_refl _⟩ ⟨rfl, rfl, rfl, rfl, trivial⟩ (ent_pick [2, 2, 2, 2, 2, 1, 0] rfl) ?_
 rintro ⟨i, hh, U⟩ ⟨hi, hst, hul⟩
 show VC _ _ _ _ [(0, .pointer (some ⟨b, 0, none⟩)), (3, .int .i64 (versM (mpT T))), (4, hh.v), (5, .int .i64 (i : Int))] (RfL b K hO T ++ [RgP K.bG K.ring bg hS, Sl eU64 hS L] ++ [Sl eOne hh U, RoM U])
 refine vc_seq ?_
 refine vc_seq ?_
 refine vc_region ?_
 iterate 3 refine vp ?_
 refine vc_y (y_fieldP fl_67_2 5 rfl rfl) rfl ?_
 refine vc_y (y_load1 0 rfl one_65 rfl (Pts.vis rfl)) rfl ?_
 refine vc_y (y_len Tryz.underlying65 rfl (by first | assumption | rfl)) rfl ?_
 refine vp ?_
 refine vc_nil ?_
 refine vc_then ?_
 first | refine vc_condP rfl (fun c16 => ?_) (fun c16 => ?_) | refine vc_condN rfl (fun c16 => ?_) (fun c16 => ?_) | refine vc_cond rfl (fun c16 => ?_) (fun c16 => ?_)
 ·skip
  have hi2 : i < T.length := by omega
  have hsn : sweepM (mpT (T.take (i + 1))) X.R.floor = sweepM (mpT (T.take i)) X.R.floor ++ (match sw1 X.R.floor (T[i].1, T[i].2.2) with | some q => [q] | none => []) := by rw [List.take_succ_eq_append_getElem hi2, mpT_append]; exact sweep_snoc _ _ _
  refine vc_skip ?_
  refine vc_then ?_
  refine vc_seq ?_
  refine vc_block ?_
  refine vc_seq ?_
  refine vc_draw (by kernel_rfl) _ none [0, 0, 0] rfl ?_
  refine tpp 0 ?_
  refine tpp 1 ?_
  refine tp 2 rfl (by exact y_fieldP fl_67_2 5 rfl rfl) ?_
  refine tk 3 rfl (by exact y_load1 0 rfl one_65 rfl (Pts.vis rfl)) ?_
  refine tpp 4 ?_
  refine tk 5 rfl (by exact y_elem 1 rfl (RoSl.vis) i rfl hi2 sl_65 rfl rfl) ?_
  refine tp 6 rfl (by exact y_fieldE fl_152_1 1 rfl rfl) ?_
  refine tk 7 rfl (by exact y_load1 1 rfl one_138 rfl (Rd.vis1 (RoSl.vis) (List.getElem?_eq_getElem (by first | assumption | omega)) rfl)) ?_
  refine tpp 8 ?_
  refine va_ready [9] (by kernel_rfl) rfl ?_
  refine vo_cons rfl (fun hC0 => ?_) ?_
  ·skip
   refine vc_callv ca_90 (us := []) (vs := []) rfl [_] rfl [0, 2, 2] rfl (Does.re (rfFloor hq (by rw [H.ring]; exact H.ok.r1)) (show _ = Value.int .i64 X.R.floor by rw [hfl])) rfl ?_
   rintro _ _ ⟨rfl, rfl⟩
   refine vc_nil ?_
   refine vc_then ?_
   refine va_kept hC0 [0, 2, 2] rfl ?_
   clear hC0
   refine va_ready [10] (by kernel_rfl) rfl ?_
   refine vo_cons rfl (fun hC0 => ?_) ?_
   ·skip
    refine vc_callv ca_119 (us := []) (vs := []) rfl [_, _] rfl [4] rfl (refSweep_spec (RoM.vis (List.getElem_mem hi2)) (by have := hT.len _ (List.getElem_mem hi2); omega) (hT.c _ (List.getElem_mem hi2)) X.R.floor) rfl ?_
    rintro _ _ ⟨g, rfl, rfl⟩
    refine vc_nil ?_
    refine vc_then ?_
    refine va_kept hC0 [2, 4, 1] rfl ?_
    clear hC0
    refine tpp 11 ?_
    refine va_done (by kernel_rfl) ?_
    refine vc_then ?_
    refine vc_seq ?_
    refine vc_region ?_
    refine vc_see 0 rfl (Sl.vis.imp fun w r => r.len) (fun hlg => ?_)
    refine vp ?_
    refine vc_y (y_len Tryz.underlying138 rfl (by first | assumption | rfl)) rfl ?_
    refine vp ?_
    refine vc_nil ?_
    refine vc_then ?_
    first | refine vc_condP rfl (fun c32 => ?_) (fun c32 => ?_) | refine vc_condN rfl (fun c32 => ?_) (fun c32 => ?_) | refine vc_cond rfl (fun c32 => ?_) (fun c32 => ?_)
    ·skip
     have hne : ¬ (verSweep T[i].2.2 X.R.floor).isEmpty = true := by
      intro h0
      rw [List.isEmpty_iff] at h0
      rw [h0] at c32
      simp at c32
     refine vc_region ?_
     iterate 3 refine vp ?_
     refine vc_y (y_fieldP fl_67_2 5 rfl rfl) rfl ?_
     refine vc_y (y_load1 2 rfl one_65 rfl (Pts.vis rfl)) rfl ?_
     refine vp ?_
     refine vc_y (y_elem 5 rfl (RoSl.vis) i rfl hi2 sl_65 rfl rfl) rfl ?_
     refine vc_y (y_fieldE fl_152_0 0 rfl rfl) rfl ?_
     refine vc_y (y_load1 5 rfl one_9 rfl (Rd.vis1 (RoSl.vis) (List.getElem?_eq_getElem (by first | assumption | omega)) rfl)) rfl ?_
     refine vp ?_
     refine vc_y (y_build [(0, _), (1, _)] [_, _] rfl (bu_152_0_1 _ _ rfl rfl)) rfl ?_
     refine vc_buildSlice (E := eOne) [(0, _)] [(T[i].1, g, verSweep T[i].2.2 X.R.floor)] rfl rfl (bs_65_1 _ _ ) rfl (fun h44 => ?_)
     refine vc_append 7 rfl 0 rfl (Sl.vis) el_65_eOne Tryz.underlying65 rfl rfl (by simp; omega) (by simp; omega) rfl (fun h45 => ?_)
     refine vc_turn 1 rfl (RoSl eVer g (verSweep T[i].2.2 X.R.floor)) Sl.share ?_
     refine vc_ent (ent_at [1, 7, 0, 0, 0, 0, 0, 0, 0] rfl (RoM.new (k := T[i].1))) ?_
     refine vp ?_
     refine vc_nil ?_
     refine vc_inNormal ?_
     refine vc_then ?_
     refine vc_region ?_
     refine vp ?_
     first | refine vc_y (y_arith _ rfl (wrapNadd (by omega))) rfl ?_ | refine vc_y (y_arith _ rfl (wrap64 (by omega) (by omega))) rfl ?_ | refine vp ?_
     refine vp ?_
     refine vc_nil ?_
     refine vc_then ?_
     first | exact vc_again (x := (i, hh, U)) (i + 1, h45, U ++ [(T[i].1, g, verSweep T[i].2.2 X.R.floor)]) ⟨hi2, by rw [hsn, mpT_append, hst]; unfold sw1; rw [if_neg hne]; rfl, by simp; omega⟩ (by show T.length - (i + 1) < T.length - i; omega) ⟨rfl, rfl, rfl, rfl, trivial⟩ (ent_pick [3, 5, 2, 2, 2, 2, 0] rfl) | exact vc_again (x := (i, hh, U)) (i + 1, hh, U) ⟨hi2, by rw [hsn, hst]; unfold sw1; rw [if_pos hne]; simp, by omega⟩ (by show T.length - (i + 1) < T.length - i; omega) ⟨rfl, rfl, rfl, rfl, trivial⟩ (ent_pick [3, 5, 2, 2, 2, 2, 0] rfl)
    ·skip
     have hne : (verSweep T[i].2.2 X.R.floor).isEmpty = true := by
      rw [List.isEmpty_iff]
      exact List.length_eq_zero_iff.1 (by omega)
     refine vc_skip ?_
     refine vc_inNormal ?_
     refine vc_then ?_
     refine vc_region ?_
     refine vp ?_
     first | refine vc_y (y_arith _ rfl (wrapNadd (by omega))) rfl ?_ | refine vc_y (y_arith _ rfl (wrap64 (by omega) (by omega))) rfl ?_ | refine vp ?_
     refine vp ?_
     refine vc_nil ?_
     refine vc_then ?_
     first | exact vc_again (x := (i, hh, U)) (i + 1, h45, U ++ [(T[i].1, g, verSweep T[i].2.2 X.R.floor)]) ⟨hi2, by rw [hsn, mpT_append, hst]; unfold sw1; rw [if_neg hne]; rfl, by simp; omega⟩ (by show T.length - (i + 1) < T.length - i; omega) ⟨rfl, rfl, rfl, rfl, trivial⟩ (ent_pick [2, 4, 1, 1, 1, 1, 1] rfl) | exact vc_again (x := (i, hh, U)) (i + 1, hh, U) ⟨hi2, by rw [hsn, hst]; unfold sw1; rw [if_pos hne]; simp, by omega⟩ (by show T.length - (i + 1) < T.length - i; omega) ⟨rfl, rfl, rfl, rfl, trivial⟩ (ent_pick [2, 4, 1, 1, 1, 1, 1] rfl)
   exact vo_nil
  exact vo_nil
 ·skip
  obtain rfl : i = T.length := by omega
  rw [List.take_length, H.m] at hst
  refine vc_exit ?_
  refine vc_thenExit ?_
  refine vc_thenExit ?_
  refine vc_inExit ?_
  refine vc_then ?_
  refine vc_seq ?_
  refine vc_region ?_
  refine vc_turn 5 rfl (RoSl eOne _ _) Sl.share ?_
  have hTU := H.ok.sweep.tok (T := U) hst
  have hvu := hTU.vers
  have hbu := hTU.n
  iterate 3 refine vp ?_
  refine vc_y (y_fieldP fl_67_2 5 rfl rfl) rfl ?_
  refine vc_storeP 0 rfl [_] [_, _, _, _, _, _] rfl rfl rfl sz_65 rfl rfl rfl ?_
  refine vc_nil ?_
  refine vc_then ?_
  refine vc_seq ?_
  refine vc_region ?_
  refine vp ?_
  refine vp ?_
  refine vc_callv ca_91 (us := []) (vs := []) rfl [_] rfl [0, 4, 4] rfl (rfVers hTU) rfl ?_
  rintro _ _ ⟨rfl, rfl⟩
  refine vc_y (y_arith _ rfl (wrap64 (by omega) (by omega))) rfl ?_
  refine vp ?_
  refine vc_nil ?_
  refine vc_then ?_
  refine vc_ret ?_
  exact vc_end1 Tryz.results69 rfl _ (ent_pick [0, 0, 0, 2, 2] rfl) ⟨by rw [H.m, hst], _, U, ⟨H.ok.sweep, H.ring, H.quota, H.most, hst, H.g, H.bg⟩, rfl⟩
end Go.Proofs.YtcpbibdbahfgaaaGreat
/-
 A room of the reference, closed.
-/
set_option linter.unusedVariables false
set_option linter.unusedSimpArgs false
set_option autoImplicit false
set_option maxHeartbeats 4000000
namespace Go.Proofs.YtcpbibdbahfgaaaGreat
open Go.Eng
namespace FRef8
theorem sz_56 : (Tryz.prog.info? 56).map (·.size) = some 5 := by kernel_rfl
theorem ze_56 : (Tryz.prog.info? 56).map (·.zero) = some (some (.agg #[.string ⟨#[]⟩, .int .i64 0, .bool false, .string ⟨#[]⟩, .int .u64 0])) := by kernel_rfl
theorem bs_52_0   (w : World) : (Instr.buildSlice 52 0 #[]).run Tryz.prog w = .ok (.slice (some ⟨w.heap.size, 0, none⟩) 0 0) { w with heap := w.heap.push (.cells #[] 56 (0, 0)) } :=
 Go.Eng.run_buildSlice Tryz.underlying52 sz_56 ze_56 (by decide) (by rw [show Array.range (0 * 5) = #[] from by decide]; simp [Instr.fill, cells_agg]) w
theorem fl_67_2 : Fld Tryz.prog 67 2 5 := ⟨_, _, 0, Tryz.underlying67, rfl, rfl, by kernel_rfl⟩
theorem one_65 : TyOne Tryz.prog 65 := ⟨⟨_, Tryz.underlying65, rfl⟩, by kernel_rfl⟩
theorem sl_65 : TySl Tryz.prog 65 152 2 := ⟨Tryz.underlying65, by kernel_rfl⟩
theorem fl_152_1 : Fld Tryz.prog 152 1 1 := ⟨_, _, 0, Tryz.underlying152, rfl, rfl, by kernel_rfl⟩
theorem one_138 : TyOne Tryz.prog 138 := ⟨⟨_, Tryz.underlying138, rfl⟩, by kernel_rfl⟩
theorem ca_37 : Callable Tryz.prog 37 := ⟨_, _, Tryz.func37, rfl, rfl⟩
theorem ca_96 : Callable Tryz.prog 96 := ⟨_, _, Tryz.func96, rfl, rfl⟩
theorem ze_135 : (Tryz.prog.info? 135).map (·.zero) = some (some (.agg #[.int .i64 0, .bool false, .bool false, .string ⟨#[]⟩, .int .u64 0])) := by kernel_rfl
theorem sz_135 : (Tryz.prog.info? 135).map (·.size) = some 5 := by kernel_rfl
theorem fl_152_0 : Fld Tryz.prog 152 0 0 := ⟨_, _, 0, Tryz.underlying152, rfl, rfl, by kernel_rfl⟩
theorem one_9 : TyOne Tryz.prog 9 := ⟨⟨_, Tryz.underlying9, rfl⟩, by kernel_rfl⟩
theorem fl_135_0 : Fld Tryz.prog 135 0 0 := ⟨_, _, 0, Tryz.underlying135, rfl, rfl, by kernel_rfl⟩
theorem one_3 : TyOne Tryz.prog 3 := ⟨⟨_, Tryz.underlying3, rfl⟩, by kernel_rfl⟩
theorem fl_135_2 : Fld Tryz.prog 135 2 2 := ⟨_, _, 2, Tryz.underlying135, rfl, rfl, by kernel_rfl⟩
theorem ag_45 : TyAgg Tryz.prog 45 3 := ⟨⟨_, Tryz.underlying45, rfl⟩, by kernel_rfl⟩
theorem bu_56_0_1_2 (v0 : Value) (v1 : Value) (v2_0 v2_1 v2_2 : Value) (h0 : v0.cells = #[v0]) (h1 : v1.cells = #[v1]) (w : World) : (Instr.build 56 #[(0, v0), (1, v1), (2, .agg #[v2_0, v2_1, v2_2])]).run Tryz.prog w = .ok (.agg #[v0, v1, v2_0, v2_1, v2_2]) w := by
 have hz := @ze_56
 exact Go.Eng.run_build (pl := [(0, 1), (1, 1), (2, 3)]) hz Tryz.underlying56 (by kernel_rfl) rfl (by simp [Instr.fill, h0, h1, cells_agg]) w
theorem bs_52_1 (v0_0 v0_1 v0_2 v0_3 v0_4 : Value)  (w : World) : (Instr.buildSlice 52 1 #[(0, .agg #[v0_0, v0_1, v0_2, v0_3, v0_4])]).run Tryz.prog w = .ok (.slice (some ⟨w.heap.size, 0, none⟩) 1 1) { w with heap := w.heap.push (.cells #[v0_0, v0_1, v0_2, v0_3, v0_4] 56 (0, 0)) } :=
 Go.Eng.run_buildSlice Tryz.underlying52 sz_56 ze_56 (by decide) (by rw [show Array.range (1 * 5) = #[0, 1, 2, 3, 4] from by decide]; simp [Instr.fill, cells_agg]) w
theorem el_52_eEn : TyEl Tryz.prog 52 eEn 56 := ⟨Tryz.underlying52, .agg #[.string ⟨#[]⟩, .int .i64 0, .bool false, .string ⟨#[]⟩, .int .u64 0], by kernel_rfl, rfl⟩
end FRef8
open FRef8
theorem rfEnt {b : Nat} {K : RfK} {hO : SH} {T : List On} {bg : Int} {hS : SH} {L : List Int} {X : RmX} (H : RfH X K T bg L) : Does Tryz.prog 92 [.pointer (some ⟨b, 0, none⟩)] (RfL b K hO T ++ [RgP K.bG K.ring bg hS, Sl eU64 hS L]) (fun v l => ∃ h', v = h'.v ∧ l = RfL b K hO T ++ [RgP K.bG K.ring bg hS, Sl eU64 hS L] ++ [Sl eEn h' (entM X.M X.R.seq)]) := by
 refine spec_of Tryz.func92 rfl Tryz.ntmps92 Tryz.results92 _ (by simp) fun ι F => ?_
 have hq := H.hq
 have hsq := H.seq
 have hT := H.ok.tok H.m
 have hb3 := hT.n
 refine vc_see 1 rfl (RoSl.vis.imp fun w r => r.len) (fun hlen => ?_)
 refine vc_seq ?_
 refine vc_region ?_
 refine vp ?_
 refine vc_nil ?_
 refine vc_then ?_
 refine vc_seq ?_
 refine vc_region ?_
 refine vc_buildSlice (E := eEn) [] [] rfl rfl (bs_52_0  ) rfl (fun h7 => ?_)
 refine vp ?_
 refine vc_nil ?_
 refine vc_then ?_
 refine vc_seq ?_
 refine vc_seq ?_
 refine vc_region ?_
 refine vp ?_
 refine vc_nil ?_
 refine vc_then ?_
 refine vc_block ?_
 refine vc_loop (α := Nat × SH × List En) (fun xq_ => match xq_ with | (i, hh, es) => [(0, .pointer (some ⟨b, 0, none⟩)), (3, hh.v), (4, .int .i64 (i : Int))]) (fun xq_ => match xq_ with | (i, hh, es) => RfL b K hO T ++ [RgP K.bG K.ring bg hS, Sl eU64 hS L] ++ [Sl eEn hh es]) (fun xq_ => match xq_ with | (i, hh, es) => T.length - i) (fun xq_ => match xq_ with | (i, hh, es) => i ≤ T.length ∧ es = entM (mpT (T.take i)) X.R.seq ∧ es.length ≤ i) (0, h7, []) ⟨Nat.zero_le _, rfl, Nat.le_refl _⟩ ⟨rfl, rfl, rfl, trivial⟩ (ent_pick [1, 1, 1, 1, 1, 0] rfl) ?_
 rintro ⟨i, hh, es⟩ ⟨hi, hst, hul⟩
 show VC _ _ _ _ [(0, .pointer (some ⟨b, 0, none⟩)), (3, hh.v), (4, .int .i64 (i : Int))] (RfL b K hO T ++ [RgP K.bG K.ring bg hS, Sl eU64 hS L] ++ [Sl eEn hh es])
 refine vc_seq ?_
 refine vc_seq ?_
 refine vc_region ?_
 iterate 3 refine vp ?_
 refine vc_y (y_fieldP fl_67_2 5 rfl rfl) rfl ?_
 refine vc_y (y_load1 0 rfl one_65 rfl (Pts.vis rfl)) rfl ?_
 refine vc_y (y_len Tryz.underlying65 rfl (by first | assumption | rfl)) rfl ?_
 refine vp ?_
 refine vc_nil ?_
 refine vc_then ?_
 first | refine vc_condP rfl (fun c14 => ?_) (fun c14 => ?_) | refine vc_condN rfl (fun c14 => ?_) (fun c14 => ?_) | refine vc_cond rfl (fun c14 => ?_) (fun c14 => ?_)
 ·skip
  have hi2 : i < T.length := by omega
  have hsn : entM (mpT (T.take (i + 1))) X.R.seq = entM (mpT (T.take i)) X.R.seq ++ (match verAt T[i].2.2 X.R.seq with | some v => [⟨T[i].1, v.seq, v.val⟩] | none => []) := by rw [List.take_succ_eq_append_getElem hi2, mpT_append]; exact ent_snoc _ _ _
  refine vc_skip ?_
  refine vc_then ?_
  refine vc_seq ?_
  refine vc_block ?_
  refine vc_seq ?_
  refine vc_draw (by kernel_rfl) _ (some 15) [0, 0, 0] rfl ?_
  refine tpp 0 ?_
  refine tpp 1 ?_
  refine tp 2 rfl (by exact y_fieldP fl_67_2 5 rfl rfl) ?_
  refine tk 3 rfl (by exact y_load1 0 rfl one_65 rfl (Pts.vis rfl)) ?_
  refine tpp 4 ?_
  refine tk 5 rfl (by exact y_elem 1 rfl (RoSl.vis) i rfl hi2 sl_65 rfl rfl) ?_
  refine tp 6 rfl (by exact y_fieldE fl_152_1 1 rfl rfl) ?_
  refine tk 7 rfl (by exact y_load1 1 rfl one_138 rfl (Rd.vis1 (RoSl.vis) (List.getElem?_eq_getElem (by first | assumption | omega)) rfl)) ?_
  refine tpp 8 ?_
  refine va_ready [9, 14] (by kernel_rfl) rfl ?_
  refine vo_cons rfl (fun hC0 => ?_) ?_
  ·skip
   refine vc_callv ca_37 (us := []) (vs := []) rfl [_] rfl [0, 2, 2] rfl (Does.re (rfSeq hq) (show _ = Value.int .i64 X.R.seq by rw [hsq])) rfl ?_
   rintro _ _ ⟨rfl, rfl⟩
   refine vc_nil ?_
   refine vc_then ?_
   refine va_kept hC0 [0, 2, 2] rfl ?_
   clear hC0
   refine va_ready [10, 14] (by kernel_rfl) rfl ?_
   refine vo_cons rfl (fun hC0 => ?_) ?_
   ·skip
    refine vc_callv ca_96 (us := []) (vs := []) rfl [_, _] rfl [4] rfl (refAt_spec (RoM.vis (List.getElem_mem hi2)) (by have := hT.len _ (List.getElem_mem hi2); omega) (hT.c _ (List.getElem_mem hi2)) X.R.seq) rfl ?_
    rintro _ _ ⟨rfl, rfl⟩
    refine vc_nil ?_
    refine vc_then ?_
    refine va_kept hC0 [1, 3, 0] rfl ?_
    clear hC0
    refine tpp 11 ?_
    refine tpp 12 ?_
    refine tpp 13 ?_
    refine va_ready [14] (by kernel_rfl) rfl ?_
    refine vo_cons rfl (fun hC0 => ?_) ?_
    ·skip
     refine vc_alloc [.int .i64 0, .bool false, .bool false, .string ⟨#[]⟩, .int .u64 0] ze_135 rfl rfl (fun b5 => ?_)
     refine vc_nil ?_
     refine vc_then ?_
     refine va_kept hC0 [2, 4, 1] rfl ?_
     clear hC0
     refine va_ready [15] (by kernel_rfl) rfl ?_
     refine vo_cons rfl (fun hC0 => ?_) ?_
     ·skip
      refine vc_storeP 0 rfl [_, _, _, _, _] [_, _, _, _, _] rfl rfl rfl sz_135 rfl rfl rfl ?_
      refine vc_nil ?_
      refine vc_then ?_
      refine va_gone hC0 (by kernel_rfl) ?_
      clear hC0
      refine va_ready [16] (by kernel_rfl) rfl ?_
      refine vo_cons rfl (fun hC0 => ?_) ?_
      ·skip
       refine vp ?_
       refine vc_nil ?_
       refine vc_then ?_
       refine va_gone hC0 (by kernel_rfl) ?_
       clear hC0
       refine va_done (by kernel_rfl) ?_
       refine vc_then ?_
       refine vc_seq ?_
       refine vc_region ?_
       refine vp ?_
       refine vc_nil ?_
       refine vc_then ?_
       first | refine vc_condP rfl (fun c31 => ?_) (fun c31 => ?_) | refine vc_condN rfl (fun c31 => ?_) (fun c31 => ?_) | refine vc_cond rfl (fun c31 => ?_) (fun c31 => ?_)
       ·skip
        obtain ⟨x, hx⟩ : ∃ x, verAt T[i].2.2 X.R.seq = some x := by
         cases h0 : verAt T[i].2.2 X.R.seq with
         | none => rw [h0] at c31; cases c31
         | some x => exact ⟨x, rfl⟩
        rw [hx]
        refine vc_draw (by kernel_rfl) _ none [2, 4, 1, 0] rfl ?_
        refine tpp 0 ?_
        refine tpp 1 ?_
        refine tpp 2 ?_
        refine tp 3 rfl (by exact y_fieldP fl_67_2 5 rfl rfl) ?_
        refine tk 4 rfl (by exact y_load1 0 rfl one_65 rfl (Pts.vis rfl)) ?_
        refine tpp 5 ?_
        refine tk 6 rfl (by exact y_elem 1 rfl (RoSl.vis) i rfl hi2 sl_65 rfl rfl) ?_
        refine tp 7 rfl (by exact y_fieldE fl_152_0 0 rfl rfl) ?_
        refine tk 8 rfl (by exact y_load1 1 rfl one_9 rfl (Rd.vis1 (RoSl.vis) (List.getElem?_eq_getElem (by first | assumption | omega)) rfl)) ?_
        refine tp 9 rfl (by exact y_fieldP fl_135_0 0 rfl rfl) ?_
        refine tk 10 rfl (by exact y_load1 3 rfl one_3 rfl (Pts.vis rfl)) ?_
        refine tp 11 rfl (by exact y_fieldP fl_135_2 2 rfl rfl) ?_
        refine tk 12 rfl (by exact y_loadA 3 rfl (cs := [_, _, _]) ag_45 rfl (Pts.visA rfl)) ?_
        refine tp 13 rfl (by exact y_build [(0, _), (1, _), (2, _)] [_, _, _, _, _] rfl (bu_56_0_1_2 _ _ _ _ _ rfl rfl)) ?_
        refine va_ready [14] (by kernel_rfl) rfl ?_
        refine vo_cons rfl (fun hC0 => ?_) ?_
        ·skip
         refine vc_buildSlice (E := eEn) [(0, _)] [⟨T[i].1, x.seq, x.val⟩] rfl rfl (bs_52_1 _ _ _ _ _ ) rfl (fun h46 => ?_)
         refine vc_nil ?_
         refine vc_then ?_
         refine va_kept hC0 [3, 5, 2, 1] rfl ?_
         clear hC0
         refine va_ready [15] (by kernel_rfl) rfl ?_
         refine vo_cons rfl (fun hC0 => ?_) ?_
         ·skip
          refine vc_append 7 rfl 0 rfl (Sl.vis) el_52_eEn Tryz.underlying52 rfl rfl (by simp; omega) (by simp; omega) rfl (fun h47 => ?_)
          refine vc_nil ?_
          refine vc_then ?_
          refine va_kept hC0 [3, 5, 2, 1] rfl ?_
          clear hC0
          refine tpp 16 ?_
          refine va_done (by kernel_rfl) ?_
          refine vc_inNormal ?_
          refine vc_then ?_
          refine vc_region ?_
          refine vp ?_
          first | refine vc_y (y_arith _ rfl (wrapNadd (by omega))) rfl ?_ | refine vc_y (y_arith _ rfl (wrap64 (by omega) (by omega))) rfl ?_ | refine vp ?_
          refine vp ?_
          refine vc_nil ?_
          refine vc_then ?_
          first | exact vc_again (x := (i, hh, es)) (i + 1, h47, es ++ [⟨T[i].1, x.seq, x.val⟩]) ⟨hi2, by rw [hsn, hx, hst], by simp; omega⟩ (by show T.length - (i + 1) < T.length - i; omega) ⟨rfl, rfl, rfl, trivial⟩ (ent_pick [3, 5, 2, 2, 2, 2] rfl) | exact vc_again (x := (i, hh, es)) (i + 1, hh, es) ⟨hi2, by rw [hsn, hx, hst]; simp, by omega⟩ (by show T.length - (i + 1) < T.length - i; omega) ⟨rfl, rfl, rfl, trivial⟩ (ent_pick [3, 5, 2, 2, 2, 2] rfl)
         exact vo_nil
        exact vo_nil
       ·skip
        have hx : verAt T[i].2.2 X.R.seq = none := by
         cases h0 : verAt T[i].2.2 X.R.seq with
         | none => rfl
         | some x => rw [h0] at c31; cases c31
        refine vc_skip ?_
        refine vc_inNormal ?_
        refine vc_then ?_
        refine vc_region ?_
        refine vp ?_
        first | refine vc_y (y_arith _ rfl (wrapNadd (by omega))) rfl ?_ | refine vc_y (y_arith _ rfl (wrap64 (by omega) (by omega))) rfl ?_ | refine vp ?_
        refine vp ?_
        refine vc_nil ?_
        refine vc_then ?_
        first | exact vc_again (x := (i, hh, es)) (i + 1, h47, es ++ [⟨T[i].1, x.seq, x.val⟩]) ⟨hi2, by rw [hsn, hx, hst], by simp; omega⟩ (by show T.length - (i + 1) < T.length - i; omega) ⟨rfl, rfl, rfl, trivial⟩ (ent_pick [2, 4, 1, 1, 1, 1] rfl) | exact vc_again (x := (i, hh, es)) (i + 1, hh, es) ⟨hi2, by rw [hsn, hx, hst]; simp, by omega⟩ (by show T.length - (i + 1) < T.length - i; omega) ⟨rfl, rfl, rfl, trivial⟩ (ent_pick [2, 4, 1, 1, 1, 1] rfl)
      exact vo_nil
     exact vo_nil
    exact vo_nil
   refine vo_cons rfl (fun hC0 => ?_) ?_
   ·skip
    refine vc_alloc [.int .i64 0, .bool false, .bool false, .string ⟨#[]⟩, .int .u64 0] ze_135 rfl rfl (fun b5 => ?_)
    refine vc_nil ?_
    refine vc_then ?_
    refine va_kept hC0 [1, 3, 3] rfl ?_
    clear hC0
    refine va_ready [10] (by kernel_rfl) rfl ?_
    refine vo_cons rfl (fun hC0 => ?_) ?_
    ·skip
     refine vc_callv ca_96 (us := []) (vs := []) rfl [_, _] rfl [5] rfl (refAt_spec (RoM.vis (List.getElem_mem hi2)) (by have := hT.len _ (List.getElem_mem hi2); omega) (hT.c _ (List.getElem_mem hi2)) X.R.seq) rfl ?_
     rintro _ _ ⟨rfl, rfl⟩
     refine vc_nil ?_
     refine vc_then ?_
     refine va_kept hC0 [2, 4, 0] rfl ?_
     clear hC0
     refine tpp 11 ?_
     refine tpp 12 ?_
     refine tpp 13 ?_
     refine va_ready [15] (by kernel_rfl) rfl ?_
     refine vo_cons rfl (fun hC0 => ?_) ?_
     ·skip
      refine vc_storeP 1 rfl [_, _, _, _, _] [_, _, _, _, _] rfl rfl rfl sz_135 rfl rfl rfl ?_
      refine vc_nil ?_
      refine vc_then ?_
      refine va_gone hC0 (by kernel_rfl) ?_
      clear hC0
      refine va_ready [16] (by kernel_rfl) rfl ?_
      refine vo_cons rfl (fun hC0 => ?_) ?_
      ·skip
       refine vp ?_
       refine vc_nil ?_
       refine vc_then ?_
       refine va_gone hC0 (by kernel_rfl) ?_
       clear hC0
       refine va_done (by kernel_rfl) ?_
       refine vc_then ?_
       refine vc_seq ?_
       refine vc_region ?_
       refine vp ?_
       refine vc_nil ?_
       refine vc_then ?_
       first | refine vc_condP rfl (fun c31 => ?_) (fun c31 => ?_) | refine vc_condN rfl (fun c31 => ?_) (fun c31 => ?_) | refine vc_cond rfl (fun c31 => ?_) (fun c31 => ?_)
       ·skip
        obtain ⟨x, hx⟩ : ∃ x, verAt T[i].2.2 X.R.seq = some x := by
         cases h0 : verAt T[i].2.2 X.R.seq with
         | none => rw [h0] at c31; cases c31
         | some x => exact ⟨x, rfl⟩
        rw [hx]
        refine vc_draw (by kernel_rfl) _ none [2, 4, 0, 0] rfl ?_
        refine tpp 0 ?_
        refine tpp 1 ?_
        refine tpp 2 ?_
        refine tp 3 rfl (by exact y_fieldP fl_67_2 5 rfl rfl) ?_
        refine tk 4 rfl (by exact y_load1 0 rfl one_65 rfl (Pts.vis rfl)) ?_
        refine tpp 5 ?_
        refine tk 6 rfl (by exact y_elem 1 rfl (RoSl.vis) i rfl hi2 sl_65 rfl rfl) ?_
        refine tp 7 rfl (by exact y_fieldE fl_152_0 0 rfl rfl) ?_
        refine tk 8 rfl (by exact y_load1 1 rfl one_9 rfl (Rd.vis1 (RoSl.vis) (List.getElem?_eq_getElem (by first | assumption | omega)) rfl)) ?_
        refine tp 9 rfl (by exact y_fieldP fl_135_0 0 rfl rfl) ?_
        refine tk 10 rfl (by exact y_load1 3 rfl one_3 rfl (Pts.vis rfl)) ?_
        refine tp 11 rfl (by exact y_fieldP fl_135_2 2 rfl rfl) ?_
        refine tk 12 rfl (by exact y_loadA 3 rfl (cs := [_, _, _]) ag_45 rfl (Pts.visA rfl)) ?_
        refine tp 13 rfl (by exact y_build [(0, _), (1, _), (2, _)] [_, _, _, _, _] rfl (bu_56_0_1_2 _ _ _ _ _ rfl rfl)) ?_
        refine va_ready [14] (by kernel_rfl) rfl ?_
        refine vo_cons rfl (fun hC0 => ?_) ?_
        ·skip
         refine vc_buildSlice (E := eEn) [(0, _)] [⟨T[i].1, x.seq, x.val⟩] rfl rfl (bs_52_1 _ _ _ _ _ ) rfl (fun h46 => ?_)
         refine vc_nil ?_
         refine vc_then ?_
         refine va_kept hC0 [3, 5, 1, 1] rfl ?_
         clear hC0
         refine va_ready [15] (by kernel_rfl) rfl ?_
         refine vo_cons rfl (fun hC0 => ?_) ?_
         ·skip
          refine vc_append 7 rfl 0 rfl (Sl.vis) el_52_eEn Tryz.underlying52 rfl rfl (by simp; omega) (by simp; omega) rfl (fun h47 => ?_)
          refine vc_nil ?_
          refine vc_then ?_
          refine va_kept hC0 [3, 5, 1, 1] rfl ?_
          clear hC0
          refine tpp 16 ?_
          refine va_done (by kernel_rfl) ?_
          refine vc_inNormal ?_
          refine vc_then ?_
          refine vc_region ?_
          refine vp ?_
          first | refine vc_y (y_arith _ rfl (wrapNadd (by omega))) rfl ?_ | refine vc_y (y_arith _ rfl (wrap64 (by omega) (by omega))) rfl ?_ | refine vp ?_
          refine vp ?_
          refine vc_nil ?_
          refine vc_then ?_
          first | exact vc_again (x := (i, hh, es)) (i + 1, h47, es ++ [⟨T[i].1, x.seq, x.val⟩]) ⟨hi2, by rw [hsn, hx, hst], by simp; omega⟩ (by show T.length - (i + 1) < T.length - i; omega) ⟨rfl, rfl, rfl, trivial⟩ (ent_pick [3, 5, 1, 2, 2, 2] rfl) | exact vc_again (x := (i, hh, es)) (i + 1, hh, es) ⟨hi2, by rw [hsn, hx, hst]; simp, by omega⟩ (by show T.length - (i + 1) < T.length - i; omega) ⟨rfl, rfl, rfl, trivial⟩ (ent_pick [3, 5, 1, 2, 2, 2] rfl)
         exact vo_nil
        exact vo_nil
       ·skip
        have hx : verAt T[i].2.2 X.R.seq = none := by
         cases h0 : verAt T[i].2.2 X.R.seq with
         | none => rfl
         | some x => rw [h0] at c31; cases c31
        refine vc_skip ?_
        refine vc_inNormal ?_
        refine vc_then ?_
        refine vc_region ?_
        refine vp ?_
        first | refine vc_y (y_arith _ rfl (wrapNadd (by omega))) rfl ?_ | refine vc_y (y_arith _ rfl (wrap64 (by omega) (by omega))) rfl ?_ | refine vp ?_
        refine vp ?_
        refine vc_nil ?_
        refine vc_then ?_
        first | exact vc_again (x := (i, hh, es)) (i + 1, h47, es ++ [⟨T[i].1, x.seq, x.val⟩]) ⟨hi2, by rw [hsn, hx, hst], by simp; omega⟩ (by show T.length - (i + 1) < T.length - i; omega) ⟨rfl, rfl, rfl, trivial⟩ (ent_pick [2, 4, 0, 1, 1, 1] rfl) | exact vc_again (x := (i, hh, es)) (i + 1, hh, es) ⟨hi2, by rw [hsn, hx, hst]; simp, by omega⟩ (by show T.length - (i + 1) < T.length - i; omega) ⟨rfl, rfl, rfl, trivial⟩ (ent_pick [2, 4, 0, 1, 1, 1] rfl)
      exact vo_nil
     exact vo_nil
    exact vo_nil
   exact vo_nil
  refine vo_cons rfl (fun hC0 => ?_) ?_
  ·skip
   refine vc_alloc [.int .i64 0, .bool false, .bool false, .string ⟨#[]⟩, .int .u64 0] ze_135 rfl rfl (fun b5 => ?_)
   refine vc_nil ?_
   refine vc_then ?_
   refine va_kept hC0 [1, 1, 1] rfl ?_
   clear hC0
   refine va_ready [9] (by kernel_rfl) rfl ?_
   refine vo_cons rfl (fun hC0 => ?_) ?_
   ·skip
    refine vc_callv ca_37 (us := []) (vs := []) rfl [_] rfl [1, 3, 3] rfl (Does.re (rfSeq hq) (show _ = Value.int .i64 X.R.seq by rw [hsq])) rfl ?_
    rintro _ _ ⟨rfl, rfl⟩
    refine vc_nil ?_
    refine vc_then ?_
    refine va_kept hC0 [0, 3, 3] rfl ?_
    clear hC0
    refine va_ready [10] (by kernel_rfl) rfl ?_
    refine vo_cons rfl (fun hC0 => ?_) ?_
    ·skip
     refine vc_callv ca_96 (us := []) (vs := []) rfl [_, _] rfl [5] rfl (refAt_spec (RoM.vis (List.getElem_mem hi2)) (by have := hT.len _ (List.getElem_mem hi2); omega) (hT.c _ (List.getElem_mem hi2)) X.R.seq) rfl ?_
     rintro _ _ ⟨rfl, rfl⟩
     refine vc_nil ?_
     refine vc_then ?_
     refine va_kept hC0 [1, 4, 0] rfl ?_
     clear hC0
     refine tpp 11 ?_
     refine tpp 12 ?_
     refine tpp 13 ?_
     refine va_ready [15] (by kernel_rfl) rfl ?_
     refine vo_cons rfl (fun hC0 => ?_) ?_
     ·skip
      refine vc_storeP 4 rfl [_, _, _, _, _] [_, _, _, _, _] rfl rfl rfl sz_135 rfl rfl rfl ?_
      refine vc_nil ?_
      refine vc_then ?_
      refine va_gone hC0 (by kernel_rfl) ?_
      clear hC0
      refine va_ready [16] (by kernel_rfl) rfl ?_
      refine vo_cons rfl (fun hC0 => ?_) ?_
      ·skip
       refine vp ?_
       refine vc_nil ?_
       refine vc_then ?_
       refine va_gone hC0 (by kernel_rfl) ?_
       clear hC0
       refine va_done (by kernel_rfl) ?_
       refine vc_then ?_
       refine vc_seq ?_
       refine vc_region ?_
       refine vp ?_
       refine vc_nil ?_
       refine vc_then ?_
       first | refine vc_condP rfl (fun c31 => ?_) (fun c31 => ?_) | refine vc_condN rfl (fun c31 => ?_) (fun c31 => ?_) | refine vc_cond rfl (fun c31 => ?_) (fun c31 => ?_)
       ·skip
        obtain ⟨x, hx⟩ : ∃ x, verAt T[i].2.2 X.R.seq = some x := by
         cases h0 : verAt T[i].2.2 X.R.seq with
         | none => rw [h0] at c31; cases c31
         | some x => exact ⟨x, rfl⟩
        rw [hx]
        refine vc_draw (by kernel_rfl) _ none [1, 4, 0, 2] rfl ?_
        refine tpp 0 ?_
        refine tpp 1 ?_
        refine tpp 2 ?_
        refine tp 3 rfl (by exact y_fieldP fl_67_2 5 rfl rfl) ?_
        refine tk 4 rfl (by exact y_load1 0 rfl one_65 rfl (Pts.vis rfl)) ?_
        refine tpp 5 ?_
        refine tk 6 rfl (by exact y_elem 1 rfl (RoSl.vis) i rfl hi2 sl_65 rfl rfl) ?_
        refine tp 7 rfl (by exact y_fieldE fl_152_0 0 rfl rfl) ?_
        refine tk 8 rfl (by exact y_load1 1 rfl one_9 rfl (Rd.vis1 (RoSl.vis) (List.getElem?_eq_getElem (by first | assumption | omega)) rfl)) ?_
        refine tp 9 rfl (by exact y_fieldP fl_135_0 0 rfl rfl) ?_
        refine tk 10 rfl (by exact y_load1 3 rfl one_3 rfl (Pts.vis rfl)) ?_
        refine tp 11 rfl (by exact y_fieldP fl_135_2 2 rfl rfl) ?_
        refine tk 12 rfl (by exact y_loadA 3 rfl (cs := [_, _, _]) ag_45 rfl (Pts.visA rfl)) ?_
        refine tp 13 rfl (by exact y_build [(0, _), (1, _), (2, _)] [_, _, _, _, _] rfl (bu_56_0_1_2 _ _ _ _ _ rfl rfl)) ?_
        refine va_ready [14] (by kernel_rfl) rfl ?_
        refine vo_cons rfl (fun hC0 => ?_) ?_
        ·skip
         refine vc_buildSlice (E := eEn) [(0, _)] [⟨T[i].1, x.seq, x.val⟩] rfl rfl (bs_52_1 _ _ _ _ _ ) rfl (fun h46 => ?_)
         refine vc_nil ?_
         refine vc_then ?_
         refine va_kept hC0 [2, 5, 1, 3] rfl ?_
         clear hC0
         refine va_ready [15] (by kernel_rfl) rfl ?_
         refine vo_cons rfl (fun hC0 => ?_) ?_
         ·skip
          refine vc_append 7 rfl 0 rfl (Sl.vis) el_52_eEn Tryz.underlying52 rfl rfl (by simp; omega) (by simp; omega) rfl (fun h47 => ?_)
          refine vc_nil ?_
          refine vc_then ?_
          refine va_kept hC0 [2, 5, 1, 3] rfl ?_
          clear hC0
          refine tpp 16 ?_
          refine va_done (by kernel_rfl) ?_
          refine vc_inNormal ?_
          refine vc_then ?_
          refine vc_region ?_
          refine vp ?_
          first | refine vc_y (y_arith _ rfl (wrapNadd (by omega))) rfl ?_ | refine vc_y (y_arith _ rfl (wrap64 (by omega) (by omega))) rfl ?_ | refine vp ?_
          refine vp ?_
          refine vc_nil ?_
          refine vc_then ?_
          first | exact vc_again (x := (i, hh, es)) (i + 1, h47, es ++ [⟨T[i].1, x.seq, x.val⟩]) ⟨hi2, by rw [hsn, hx, hst], by simp; omega⟩ (by show T.length - (i + 1) < T.length - i; omega) ⟨rfl, rfl, rfl, trivial⟩ (ent_pick [2, 5, 1, 1, 1, 2] rfl) | exact vc_again (x := (i, hh, es)) (i + 1, hh, es) ⟨hi2, by rw [hsn, hx, hst]; simp, by omega⟩ (by show T.length - (i + 1) < T.length - i; omega) ⟨rfl, rfl, rfl, trivial⟩ (ent_pick [2, 5, 1, 1, 1, 2] rfl)
         exact vo_nil
        exact vo_nil
       ·skip
        have hx : verAt T[i].2.2 X.R.seq = none := by
         cases h0 : verAt T[i].2.2 X.R.seq with
         | none => rfl
         | some x => rw [h0] at c31; cases c31
        refine vc_skip ?_
        refine vc_inNormal ?_
        refine vc_then ?_
        refine vc_region ?_
        refine vp ?_
        first | refine vc_y (y_arith _ rfl (wrapNadd (by omega))) rfl ?_ | refine vc_y (y_arith _ rfl (wrap64 (by omega) (by omega))) rfl ?_ | refine vp ?_
        refine vp ?_
        refine vc_nil ?_
        refine vc_then ?_
        first | exact vc_again (x := (i, hh, es)) (i + 1, h47, es ++ [⟨T[i].1, x.seq, x.val⟩]) ⟨hi2, by rw [hsn, hx, hst], by simp; omega⟩ (by show T.length - (i + 1) < T.length - i; omega) ⟨rfl, rfl, rfl, trivial⟩ (ent_pick [1, 4, 0, 0, 0, 1] rfl) | exact vc_again (x := (i, hh, es)) (i + 1, hh, es) ⟨hi2, by rw [hsn, hx, hst]; simp, by omega⟩ (by show T.length - (i + 1) < T.length - i; omega) ⟨rfl, rfl, rfl, trivial⟩ (ent_pick [1, 4, 0, 0, 0, 1] rfl)
      exact vo_nil
     exact vo_nil
    exact vo_nil
   exact vo_nil
  exact vo_nil
 ·skip
  obtain rfl : i = T.length := by omega
  rw [List.take_length, H.m] at hst
  refine vc_exit ?_
  refine vc_thenExit ?_
  refine vc_thenExit ?_
  refine vc_inExit ?_
  refine vc_then ?_
  refine vc_seq ?_
  refine vc_region ?_
  refine vp ?_
  refine vp ?_
  refine vc_nil ?_
  refine vc_then ?_
  refine vc_ret ?_
  exact vc_end1 Tryz.results92 rfl _ (ent_pick [0, 0, 0, 0, 0, 0] rfl) ⟨hh, rfl, by rw [hst]; rfl⟩
structure RfI where
 K : RfK
 hO : SH
 T : List On
 hS : SH
 L : List Int
def RfO (b : Nat) (X : RmX) (I : RfI) : List HP := RfL b I.K I.hO I.T ++ [RgP I.K.bG I.K.ring X.R.begin I.hS, Sl eU64 I.hS I.L]
/-- A room of the reference. -/
def RefC (b : Nat) (X : RmX) : HP := ex fun I => sep (lift (RfH X I.K I.T X.R.begin I.L)) (seps (RfO b X I))
theorem ent_Rf {b : Nat} {X : RmX} {K : RfK} {hO : SH} {T : List On} {bg : Int} {hS : SH} {L : List Int} (H : RfH X K T bg L) {r : List HP} : Ent (seps (RfL b K hO T ++ [RgP K.bG K.ring bg hS, Sl eU64 hS L] ++ r)) (seps (RefC b X :: r)) := by
 have e := H.bg
 subst e
 have := Ent.append.trans ((ent_lift (p := RfH X K T X.R.begin L) H (A := seps (RfO b X ⟨K, hO, T, hS, L⟩)) (r := r)).trans (ent_ex (f := fun I => sep (lift (RfH X I.K I.T X.R.begin I.L)) (seps (RfO b X I))) ⟨K, hO, T, hS, L⟩))
 exact this
theorem ref_does {f : FuncId} {args : List Value} {b : Nat} {X : RmX} {r : List HP} {Q : Value → List HP → Prop} (h : ∀ I, RfH X I.K I.T X.R.begin I.L → Does Tryz.prog f args (RfO b X I ++ r) Q) : Does Tryz.prog f args (RefC b X :: r) Q :=
 Does.ex1 fun I => Does.lift1 fun rel => Does.pre Ent.append' (h I rel)
theorem ent_Rf0 {b : Nat} {X : RmX} {K : RfK} {hO : SH} {T : List On} {bg : Int} {hS : SH} {L : List Int} (H : RfH X K T bg L) : Ent (seps (RfL b K hO T ++ [RgP K.bG K.ring bg hS, Sl eU64 hS L])) (seps [RefC b X]) := by
 have := ent_Rf (b := b) (hO := hO) (hS := hS) H (r := [])
 rwa [List.append_nil] at this
section
variable {b : Nat} {X : RmX}
theorem ref_sweep (ok : X.ok) : Does Tryz.prog 69 [.pointer (some ⟨b, 0, none⟩)] [RefC b X] (fun v l => v = .int .i64 (versM X.M - versM (sweepM X.M X.R.floor)) ∧ l = [RefC b (swX X)]) :=
 ref_does (r := []) fun I H => Does.fin (rfSweep H) fun v l ⟨e, hO, T, H2, h⟩ => ⟨_, h ▸ ent_Rf0 H2, e, rfl⟩
theorem ref_entries (ok : X.ok) : Does Tryz.prog 92 [.pointer (some ⟨b, 0, none⟩)] [RefC b X] (fun v l => ∃ h', v = h'.v ∧ l = [RefC b X, Sl eEn h' (entM X.M X.R.seq)]) :=
 ref_does (r := []) fun I H => Does.fin (rfEnt H) fun v l ⟨h', e, h⟩ => ⟨_, h ▸ ent_Rf H (r := [Sl eEn h' (entM X.M X.R.seq)]), h', e, rfl⟩
theorem ref_check {A : HP} {h : SH} {ws : List Wr} (hv : Vis A (Rd eWr h ws)) (hb : ws.length ≤ 1000000) (hbits : ∀ w ∈ ws, 0 ≤ w.val.bits ∧ w.val.bits ≤ 18446744073709551615) (hbg : X.R.seq - X.R.begin < 900000) (hle : X.M.length + ws.length ≤ 100000 ∨ mayW ws = false) (seq : Int) : Does Tryz.prog 70 [.pointer (some ⟨b, 0, none⟩), h.v, .int .i64 seq] [RefC b X, A] (fun v l => v = .int .i64 (checkE X ws seq) ∧ l = [RefC b X, A]) :=
 ref_does (r := [A]) fun I H => Does.fin (rfCheck H hv hb hbits hbg hle seq) fun v l ⟨e, h⟩ => ⟨_, h ▸ ent_Rf H (r := [A]), e, rfl⟩
theorem ref_commit {A : HP} {h : SH} {ws : List Wr} (hv : Vis A (Rd eWr h ws)) (hb : ws.length ≤ 1000000) (hbits : ∀ w ∈ ws, 0 ≤ w.val.bits ∧ w.val.bits ≤ 18446744073709551615) (hbg : X.R.seq - X.R.begin < 900000) (hle : X.M.length + ws.length ≤ 100000 ∨ mayW ws = false) (stamp : Int) : Does Tryz.prog 68 [.pointer (some ⟨b, 0, none⟩), h.v, .int .u64 stamp] [RefC b X, A] (fun v l => v = .tuple #[.int .i64 (commitX X ws stamp).1, .int .i64 (commitX X ws stamp).2.1] ∧ (commitX X ws stamp).2.2.ok ∧ l = [RefC b (commitX X ws stamp).2.2, A]) :=
 ref_does (r := [A]) fun I H => Does.fin (rfCommit H hv hb hbits hbg hle stamp) fun v l ⟨e, hO, T, hS, L, H2, h⟩ => ⟨_, h ▸ ent_Rf H2 (r := [A]), e, H2.ok, rfl⟩
theorem ref_new {h : SH} {label : List Int} {ring quota most seq : Int} (hr : setRight label ring quota most = true) (h1 : 0 ≤ seq) (h2 : seq ≤ most) : Does Tryz.prog 12 [.agg #[h.v, .int .i64 ring, .int .i64 quota, .int .i64 most], .int .i64 seq] [] (fun v l => ∃ b, v = .pointer (some ⟨b, 0, none⟩) ∧ l = [RefC b (X0 label ring quota most seq)]) :=
 Does.fin (refNew_spec ring quota most seq) fun v l ⟨b, bG, e, h⟩ => ⟨[RefC b (X0 label ring quota most seq)], h ▸ ent_Rf0 ⟨X0_ok hr h1 h2, rfl, rfl, rfl, rfl, ⟨by simp [X0], by simp [X0], trivial⟩, rfl⟩, b, e, rfl⟩
end
end Go.Proofs.YtcpbibdbahfgaaaGreat
