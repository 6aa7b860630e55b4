/-
 Chains of versions.
-/
import Derived.Test.YtcpbibdbahfgaaaGreatSw2
set_option linter.unusedVariables false
set_option linter.unusedSimpArgs false
set_option autoImplicit false
set_option maxHeartbeats 4000000
namespace Go.Proofs.YtcpbibdbahfgaaaGreat
open Go.Eng
namespace FChain
theorem sl_138 : TySl Tryz.prog 138 135 5 := ⟨Tryz.underlying138, by kernel_rfl⟩
theorem ag_135 : TyAgg Tryz.prog 135 5 := ⟨⟨_, Tryz.underlying135, rfl⟩, by kernel_rfl⟩
theorem ze_135 : (Tryz.prog.info? 135).map (·.zero) = some (some (.agg #[.int .i64 0, .bool false, .bool false, .string ⟨#[]⟩, .int .u64 0])) := by kernel_rfl
theorem sz_135 : (Tryz.prog.info? 135).map (·.size) = some 5 := by kernel_rfl
theorem ca_158 : Callable Tryz.prog 158 := ⟨_, _, Tryz.func158, rfl, rfl⟩
theorem fl_135_0 : Fld Tryz.prog 135 0 0 := ⟨_, _, 0, Tryz.underlying135, rfl, rfl, by kernel_rfl⟩
theorem one_3 : TyOne Tryz.prog 3 := ⟨⟨_, Tryz.underlying3, rfl⟩, by kernel_rfl⟩
theorem ca_160 : Callable Tryz.prog 160 := ⟨_, _, Tryz.func160, rfl, rfl⟩
theorem ca_159 : Callable Tryz.prog 159 := ⟨_, _, Tryz.func159, rfl, rfl⟩
theorem ca_127 : Callable Tryz.prog 127 := ⟨_, _, Tryz.func127, rfl, rfl⟩
theorem bu_135_n   (w : World) : (Instr.build 135 #[]).run Tryz.prog w = .ok (.agg #[.int .i64 0, .bool false, .bool false, .string ⟨#[]⟩, .int .u64 0]) w := by
 have hz := @ze_135
 exact Go.Eng.run_build (pl := [(0, 1), (1, 1), (2, 3)]) hz Tryz.underlying135 (by kernel_rfl) rfl (by simp [Instr.fill, cells_agg]) w
theorem ca_128 : Callable Tryz.prog 128 := ⟨_, _, Tryz.func128, rfl, rfl⟩
theorem fl_135_1 : Fld Tryz.prog 135 1 1 := ⟨_, _, 0, Tryz.underlying135, rfl, rfl, by kernel_rfl⟩
theorem one_4 : TyOne Tryz.prog 4 := ⟨⟨_, Tryz.underlying4, rfl⟩, by kernel_rfl⟩
theorem bs_138_0   (w : World) : (Instr.buildSlice 138 0 #[]).run Tryz.prog w = .ok (.slice (some ⟨w.heap.size, 0, none⟩) 0 0) { w with heap := w.heap.push (.cells #[] 135 (0, 0)) } :=
 Go.Eng.run_buildSlice Tryz.underlying138 sz_135 ze_135 (by decide) (by rw [show Array.range (0 * 5) = #[] from by decide]; simp [Instr.fill, cells_agg]) w
theorem el_138_eVer : TyEl Tryz.prog 138 eVer 48 := ⟨Tryz.underlying138, .agg #[.int .i64 0, .bool false, .bool false, .string ⟨#[]⟩, .int .u64 0], by kernel_rfl, rfl⟩
theorem ca_77 : Callable Tryz.prog 77 := ⟨_, _, Tryz.func77, rfl, rfl⟩
theorem ca_131 : Callable Tryz.prog 131 := ⟨_, _, Tryz.func131, rfl, rfl⟩
theorem bs_138_1 (v0_0 v0_1 v0_2 v0_3 v0_4 : Value)  (w : World) : (Instr.buildSlice 138 1 #[(0, .agg #[v0_0, v0_1, v0_2, v0_3, v0_4])]).run Tryz.prog w = .ok (.slice (some ⟨w.heap.size, 0, none⟩) 1 1) { w with heap := w.heap.push (.cells #[v0_0, v0_1, v0_2, v0_3, v0_4] 135 (0, 0)) } :=
 Go.Eng.run_buildSlice Tryz.underlying138 sz_135 ze_135 (by decide) (by rw [show Array.range (1 * 5) = #[0, 1, 2, 3, 4] from by decide]; simp [Instr.fill, cells_agg]) w
theorem ca_134 : Callable Tryz.prog 134 := ⟨_, _, Tryz.func134, rfl, rfl⟩
theorem ze_282 : (Tryz.prog.info? 282).map (·.zero) = some (some (.agg #[.int .u8 0, .int .u8 0, .int .u8 0, .int .u8 0, .int .u8 0, .int .u8 0, .int .u8 0, .int .u8 0])) := by kernel_rfl
theorem ca_219 : Callable Tryz.prog 219 := ⟨_, _, Tryz.func219, rfl, rfl⟩
theorem sz_5 : (Tryz.prog.info? 5).map (·.size) = some 1 := by kernel_rfl
theorem ag_45 : TyAgg Tryz.prog 45 3 := ⟨⟨_, Tryz.underlying45, rfl⟩, by kernel_rfl⟩
theorem ca_87 : Callable Tryz.prog 87 := ⟨_, _, Tryz.func87, rfl, rfl⟩
theorem fl_45_0 : Fld Tryz.prog 45 0 0 := ⟨_, _, 0, Tryz.underlying45, rfl, rfl, by kernel_rfl⟩
theorem fl_45_2 : Fld Tryz.prog 45 2 2 := ⟨_, _, 0, Tryz.underlying45, rfl, rfl, by kernel_rfl⟩
theorem one_34 : TyOne Tryz.prog 34 := ⟨⟨_, Tryz.underlying34, rfl⟩, by kernel_rfl⟩
theorem ca_135 : Callable Tryz.prog 135 := ⟨_, _, Tryz.func135, rfl, rfl⟩
theorem ca_189 : Callable Tryz.prog 189 := ⟨_, _, Tryz.func189, rfl, rfl⟩
theorem fl_45_1 : Fld Tryz.prog 45 1 1 := ⟨_, _, 0, Tryz.underlying45, rfl, rfl, by kernel_rfl⟩
theorem one_9 : TyOne Tryz.prog 9 := ⟨⟨_, Tryz.underlying9, rfl⟩, by kernel_rfl⟩
theorem ca_154 : Callable Tryz.prog 154 := ⟨_, _, Tryz.func154, rfl, rfl⟩
theorem ca_85 : Callable Tryz.prog 85 := ⟨_, _, Tryz.func85, rfl, rfl⟩
theorem fl_135_2 : Fld Tryz.prog 135 2 2 := ⟨_, _, 2, Tryz.underlying135, rfl, rfl, by kernel_rfl⟩
theorem ca_113 : Callable Tryz.prog 113 := ⟨_, _, Tryz.func113, rfl, rfl⟩
theorem ca_156 : Callable Tryz.prog 156 := ⟨_, _, Tryz.func156, rfl, rfl⟩
end FChain
open FChain
theorem verRight_seq {x : Ver} (h : verRight x = true) : 1 ≤ x.seq ∧ x.seq ≤ 1073741824 := by
 simp only [verRight, Bool.and_eq_true, decide_eq_true_eq] at h
 exact ⟨h.1, h.2.1⟩
theorem lastSeq_pos {l : List Ver} {i : Nat} (h : 0 < i) (h' : i ≤ l.length) : lastSeq l i = (l[i - 1]'(by omega)).seq := by
 cases i with
 | zero => omega
 | succ i => simp [lastSeq, List.getElem?_eq_getElem (show i < l.length by omega)]
theorem chainFrom_mem : ∀ {l : List Ver} {last : Int}, chainFrom last l = true → ∀ v ∈ l, last < v.seq ∧ verRight v = true
 | [], _, _, v, hv => by cases hv
 | x :: r, last, h, v, hv => by
  simp only [chainFrom, Bool.and_eq_true, decide_eq_true_eq] at h
  rcases List.mem_cons.1 hv with rfl | hv
  ·exact ⟨h.2.1, h.1⟩
  ·have := chainFrom_mem h.2.2 v hv
   exact ⟨by omega, this.2⟩
theorem chain_seq {l : List Ver} (h : chainRight l = true) {i : Nat} (hi : i < l.length) : 1 ≤ l[i].seq ∧ l[i].seq ≤ 1073741824 := verRight_seq (chainFrom_mem h _ (List.getElem_mem hi)).2
def lbV : List Ver → Int → Nat
 | [], _ => 0
 | v :: r, s => if v.seq < s then lbV r s + 1 else 0
def bhd : List Ver → Int → Nat
 | [], _ => 0
 | v :: r, s => if v.seq ≤ s then bhd r s + 1 else 0
theorem lbV_le : ∀ (l : List Ver) (s : Int), lbV l s ≤ l.length
 | [], _ => Nat.le_refl _
 | v :: r, s => by
  simp only [lbV]
  have := lbV_le r s
  split <;> simp only [List.length_cons] <;> omega
theorem bhd_le : ∀ (l : List Ver) (s : Int), bhd l s ≤ l.length
 | [], _ => Nat.le_refl _
 | v :: r, s => by
  simp only [bhd]
  have := bhd_le r s
  split <;> simp only [List.length_cons] <;> omega
theorem lbV_iff : ∀ {l : List Ver} {last : Int} (h : chainFrom last l = true) (s : Int) {i : Nat} (hi : i < l.length), l[i].seq < s ↔ i < lbV l s
 | [], _, _, _, i, hi => by simp at hi
 | v :: r, last, h, s, i, hi => by
  simp only [chainFrom, Bool.and_eq_true, decide_eq_true_eq] at h
  simp only [lbV]
  cases i with
  | zero =>
   simp only [List.getElem_cons_zero]
   split <;> simp_all
  | succ i =>
   have hi' : i < r.length := by simpa using hi
   have ih := lbV_iff h.2.2 s hi'
   simp only [List.getElem_cons_succ]
   by_cases hv : v.seq < s
   ·rw [if_pos hv, ih]; omega
   ·rw [if_neg hv]
    have := (chainFrom_mem h.2.2 _ (List.getElem_mem hi')).1
    constructor
    ·intro; omega
    ·intro; omega
def fndV (l : List Ver) (s : Int) : Bool := match l[lbV l s]? with
 | some v => decide (v.seq = s)
 | none => false
theorem bhd_eq : ∀ {l : List Ver} {last : Int} (h : chainFrom last l = true) (s : Int), bhd l s = if fndV l s = true then lbV l s + 1 else lbV l s
 | [], _, _, _ => rfl
 | v :: r, last, h, s => by
  simp only [chainFrom, Bool.and_eq_true, decide_eq_true_eq] at h
  have ih := bhd_eq h.2.2 s
  by_cases h1 : v.seq < s
  ·have e1 : lbV (v :: r) s = lbV r s + 1 := by simp [lbV, h1]
   have e2 : fndV (v :: r) s = fndV r s := by simp [fndV, e1]
   have e3 : bhd (v :: r) s = bhd r s + 1 := by simp only [bhd]; rw [if_pos (by omega)]
   rw [e1, e2, e3, ih]
   split <;> rfl
  ·have e1 : lbV (v :: r) s = 0 := by simp [lbV, h1]
   have e2 : fndV (v :: r) s = decide (v.seq = s) := by simp [fndV, e1]
   rw [e1, e2]
   by_cases h2 : v.seq = s
   ·have : bhd r s = 0 := by
     cases r with
     | nil => rfl
     | cons x r =>
      have := (chainFrom_mem h.2.2 x (by simp)).1
      simp only [bhd]
      rw [if_neg (by omega)]
    simp only [bhd, this]
    rw [if_pos (by omega), if_pos (by simp [h2])]
   ·simp only [bhd]
    rw [if_neg (by omega), if_neg (by simp [h2])]
def verAt (l : List Ver) (s : Int) : Option Ver := if chainRight l && decide (1 ≤ s) then (match l[bhd l s - 1]? with | some v => if bhd l s = 0 || v.gone then none else some v | none => none) else none
def verOld (l : List Ver) (s : Int) : Nat := if chainRight l && decide (1 ≤ s) then (match l[bhd l s - 1]? with | some v => if 0 < bhd l s && !v.gone then bhd l s - 1 else bhd l s | none => bhd l s) else 0
def verSweep (l : List Ver) (s : Int) : List Ver := if chainRight l then l.drop (verOld l s) else []
theorem verOld_le (l : List Ver) (s : Int) : verOld l s ≤ l.length := by
 have := bhd_le l s
 unfold verOld
 split
 ·split
  ·split <;> omega
  ·omega
 ·omega
def vWeight (x : Val) : Int := if valRight x then (if x.num then 9 else 1 + (x.text.size : Int)) else 0
theorem vWeight_le (x : Val) : 0 ≤ vWeight x ∧ vWeight x ≤ 65 := by
 unfold vWeight
 split
 ·split
  ·omega
  ·rename_i h1 h2
   simp only [valRight, h2, Bool.false_eq_true, if_false, Bool.and_eq_true, decide_eq_true_eq] at h1
   omega
 ·omega
def cWeight (l : List Ver) : Int := match verLast l with
 | some v => if v.gone then 0 else vWeight v.val
 | none => 0
theorem cWeight_le (l : List Ver) : 0 ≤ cWeight l ∧ cWeight l ≤ 65 := by
 unfold cWeight
 split
 ·split
  ·omega
  ·exact vWeight_le _
 ·omega
def lives (key : ByteArray) (l : List Ver) : Int := if cWeight l = 0 then 0 else (key.size : Int) + cWeight l
def eU8A : Enc Int := ⟨282, 1, fun n => [.int .u8 n], fun _ => rfl, fun _ c h => by simp at h; subst h; rfl, by decide⟩
theorem size_cat (a b : ByteArray) : (a ++ b).size = a.size + b.size := ByteArray.size_append
theorem CRight_spec {A : HP} {h : SH} {xs : List Ver} (hv : Vis A (Rd eVer h xs)) (hb : xs.length ≤ 1000000) :
  Does Tryz.prog 127 [h.v] [A] (fun v l => v = .bool (chainRight xs) ∧ l = [A]) := by
 refine spec_of Tryz.func127 rfl Tryz.ntmps127 Tryz.results127 _ (by simp) fun ι F => ?_
 refine vc_see 0 rfl (hv.imp fun w r => r.len) (fun hlen => ?_)
 refine vc_seq ?_
 refine vc_region ?_
 refine vp ?_
 refine vc_nil ?_
 refine vc_then ?_
 refine vc_seq ?_
 refine vc_seq ?_
 refine vc_region ?_
 refine vp ?_
 refine vc_y (y_len Tryz.underlying138 rfl (by first | assumption | rfl)) rfl ?_
 refine vp ?_
 refine vc_nil ?_
 refine vc_then ?_
 refine vc_block ?_
 refine vc_loop (α := Nat) (fun xq_ => match xq_ with | i => [(0, h.v), (5, h.v), (6, .int .i64 (xs.length : Int)), (7, .int .i64 (i : Int))]) (fun xq_ => match xq_ with | i => [A]) (fun xq_ => match xq_ with | i => xs.length - i) (fun xq_ => match xq_ with | i => i ≤ xs.length ∧ chainFrom 0 xs = chainFrom (lastSeq xs i) (xs.drop i)) 0 ⟨Nat.zero_le _, rfl⟩ ⟨rfl, rfl, rfl, rfl, trivial⟩ (ent_pick [0] rfl) ?_
 rintro i ⟨hi, hch⟩
 show VC _ _ _ _ [(0, h.v), (5, h.v), (6, .int .i64 (xs.length : Int)), (7, .int .i64 (i : Int))] ([A])
 refine vc_seq ?_
 refine vc_region ?_
 refine vp ?_
 refine vc_nil ?_
 refine vc_then ?_
 refine vc_seq ?_
 first | refine vc_condP rfl (fun c8 => ?_) (fun c8 => ?_) | refine vc_condN rfl (fun c8 => ?_) (fun c8 => ?_) | refine vc_cond rfl (fun c8 => ?_) (fun c8 => ?_)
 ·skip
  have hi2 : i < xs.length := by omega
  have hch2 : chainFrom 0 xs = (verRight xs[i] && (decide (lastSeq xs i < xs[i].seq) && chainFrom xs[i].seq (xs.drop (i + 1)))) := by rw [hch, List.drop_eq_getElem_cons hi2]; rfl
  refine vc_skip ?_
  refine vc_then ?_
  refine vc_seq ?_
  refine vc_block ?_
  refine vc_seq ?_
  refine vc_region ?_
  refine vp ?_
  refine vc_y (y_elem 0 rfl (hv) i rfl hi2 sl_138 rfl rfl) rfl ?_
  refine vc_y (y_loadA 0 rfl (cs := [_, _, _, _, _]) ag_135 rfl (Rd.visA (hv) (List.getElem?_eq_getElem (by first | assumption | omega)) rfl)) rfl ?_
  refine vc_alloc [.int .i64 0, .bool false, .bool false, .string ⟨#[]⟩, .int .u64 0] ze_135 rfl rfl (fun b4 => ?_)
  refine vp ?_
  refine vc_storeP 0 rfl [_, _, _, _, _] [_, _, _, _, _] rfl rfl rfl sz_135 rfl rfl rfl ?_
  refine vc_nil ?_
  refine vc_then ?_
  refine vc_seq ?_
  refine vc_draw (by kernel_rfl) _ none [0, 0] rfl ?_
  refine tk 0 rfl (by exact y_loadA 0 rfl (cs := [_, _, _, _, _]) ag_135 rfl (Pts.visA rfl)) ?_
  refine va_ready [1] (by kernel_rfl) rfl ?_
  refine vo_cons rfl (fun hC0 => ?_) ?_
  ·skip
   refine vc_callv ca_158 (us := []) (vs := []) rfl [_] rfl [] rfl (cright_spec xs[i]) rfl ?_
   rintro _ _ ⟨rfl, rfl⟩
   refine vc_nil ?_
   refine vc_then ?_
   refine va_kept hC0 [0, 0] rfl ?_
   clear hC0
   refine tpp 2 ?_
   refine tpp 3 ?_
   first | refine va_splitP 15 rfl (fun c15 => ?_) (fun c15 => ?_) | refine va_splitN 15 rfl (fun c15 => ?_) (fun c15 => ?_) | refine va_split 15 rfl (fun c15 => ?_) (fun c15 => ?_)
   ·skip
    have hvr : verRight xs[i] = false := by simpa using c15
    refine sk 4 15 ?_
    refine sk 5 15 ?_
    refine sk 6 15 ?_
    refine sku 7 18 ?_
    refine sku 8 18 ?_
    refine sku 9 18 ?_
    refine sku 10 18 ?_
    refine sku 11 18 ?_
    refine sku 12 18 ?_
    refine sku 13 18 ?_
    refine sku 14 18 ?_
    refine sku 15 18 ?_
    refine sk 16 15 ?_
    refine tpp 17 ?_
    refine va_done (by kernel_rfl) ?_
    refine vc_then ?_
    refine vc_condT rfl ?_
    refine vc_seq ?_
    refine vc_region ?_
    refine vp ?_
    refine vc_nil ?_
    refine vc_then ?_
    refine vc_ret ?_
    refine vc_inRet ?_
    refine vc_thenRet ?_
    refine vc_thenRet ?_
    refine vc_inRet ?_
    refine vc_thenRet ?_
    exact vc_end1 Tryz.results127 rfl _ (ent_pick [1] rfl) ⟨by unfold chainRight; rw [hch2, hvr]; rfl, rfl⟩
   ·skip
    have hvr : verRight xs[i] = true := by simpa using c15
    have hs1 := verRight_seq hvr
    refine tgp 4 15 ?_
    refine tgp 5 15 ?_
    refine tgp 6 15 ?_
    first | refine va_splitP 18 rfl (fun c18 => ?_) (fun c18 => ?_) | refine va_splitN 18 rfl (fun c18 => ?_) (fun c18 => ?_) | refine va_split 18 rfl (fun c18 => ?_) (fun c18 => ?_)
    ·skip
     have hls := lastSeq_pos (l := xs) (i := i) (by omega) (by omega)
     refine tgp 7 18 ?_
     refine tgp 8 18 ?_
     first | refine tg 9 18 rfl (by exact y_arith _ rfl (wrapNsub (by omega))) ?_ | refine tg 9 18 rfl (by exact y_arith _ rfl (wrap64 (by omega) (by omega))) ?_ | refine tgp 9 18 ?_
     refine tkg 10 18 rfl (by exact y_elem 1 rfl (hv) (i - 1) rfl (by omega) sl_138 rfl rfl) ?_
     refine tg 11 18 rfl (by exact y_fieldE fl_135_0 0 rfl rfl) ?_
     refine tkg 12 18 rfl (by exact y_load1 1 rfl one_3 rfl (Rd.vis1 (hv) (List.getElem?_eq_getElem (by first | assumption | omega)) rfl)) ?_
     refine tg 13 18 rfl (by exact y_fieldP fl_135_0 0 rfl rfl) ?_
     refine tkg 14 18 rfl (by exact y_load1 0 rfl one_3 rfl (Pts.vis rfl)) ?_
     refine tgp 15 18 ?_
     refine tgp 16 15 ?_
     refine tpp 17 ?_
     refine va_done (by kernel_rfl) ?_
     refine vc_then ?_
     first | refine vc_condP rfl (fun c29 => ?_) (fun c29 => ?_) | refine vc_condN rfl (fun c29 => ?_) (fun c29 => ?_) | refine vc_cond rfl (fun c29 => ?_) (fun c29 => ?_)
     ·skip
      refine vc_seq ?_
      refine vc_region ?_
      refine vp ?_
      refine vc_nil ?_
      refine vc_then ?_
      refine vc_ret ?_
      refine vc_inRet ?_
      refine vc_thenRet ?_
      refine vc_thenRet ?_
      refine vc_inRet ?_
      refine vc_thenRet ?_
      exact vc_end1 Tryz.results127 rfl _ (ent_pick [1] rfl) ⟨by unfold chainRight; rw [hch2, hvr, hls, decide_eq_false (by omega)]; rfl, rfl⟩
     ·skip
      refine vc_skip ?_
      refine vc_inNormal ?_
      refine vc_then ?_
      refine vc_region ?_
      first | refine vc_y (y_arith _ rfl (wrapNadd (by omega))) rfl ?_ | refine vc_y (y_arith _ rfl (wrap64 (by omega) (by omega))) rfl ?_ | refine vp ?_
      refine vp ?_
      refine vc_nil ?_
      refine vc_then ?_
      exact vc_again (x := i) (i + 1) ⟨hi2, by rw [hch2, lastSeq_succ hi2, hvr, hls, decide_eq_true (by omega)]; rfl⟩ (by show xs.length - (i + 1) < xs.length - i; omega) ⟨rfl, rfl, rfl, rfl, trivial⟩ (ent_pick [1] rfl)
    ·skip
     have hls : lastSeq xs i = 0 := by
      obtain rfl : i = 0 := by omega
      rfl
     refine sk 7 18 ?_
     refine sk 8 18 ?_
     refine sk 9 18 ?_
     refine sk 10 18 ?_
     refine sk 11 18 ?_
     refine sk 12 18 ?_
     refine sk 13 18 ?_
     refine sk 14 18 ?_
     refine sk 15 18 ?_
     refine tgp 16 15 ?_
     refine tpp 17 ?_
     refine va_done (by kernel_rfl) ?_
     refine vc_then ?_
     refine vc_condF rfl ?_
     refine vc_skip ?_
     refine vc_inNormal ?_
     refine vc_then ?_
     refine vc_region ?_
     first | refine vc_y (y_arith _ rfl (wrapNadd (by omega))) rfl ?_ | refine vc_y (y_arith _ rfl (wrap64 (by omega) (by omega))) rfl ?_ | refine vp ?_
     refine vp ?_
     refine vc_nil ?_
     refine vc_then ?_
     exact vc_again (x := i) (i + 1) ⟨hi2, by rw [hch2, lastSeq_succ hi2, hvr, hls, decide_eq_true (by omega)]; rfl⟩ (by show xs.length - (i + 1) < xs.length - i; omega) ⟨rfl, rfl, rfl, rfl, trivial⟩ (ent_pick [1] rfl)
  exact vo_nil
 ·skip
  obtain rfl : i = xs.length := by omega
  refine vc_exit ?_
  refine vc_thenExit ?_
  refine vc_thenExit ?_
  refine vc_inExit ?_
  refine vc_then ?_
  refine vc_seq ?_
  refine vc_region ?_
  refine vp ?_
  refine vc_nil ?_
  refine vc_then ?_
  refine vc_ret ?_
  exact vc_end1 Tryz.results127 rfl _ (ent_pick [0] rfl) ⟨by unfold chainRight; rw [hch, List.drop_length]; rfl, rfl⟩
theorem bh1_spec (x : Ver) {seq : Int} (h3 : 1 ≤ x.seq ∧ x.seq ≤ 1073741824) (h1 : 1 ≤ seq) (h2 : seq ≤ 9223372036854775807) : Does Tryz.prog 160 [.agg #[.int .i64 x.seq, .bool x.gone, .bool x.val.num, .string x.val.text, .int .u64 x.val.bits], .int .i64 seq] [] (fun v l => v = .int .i64 (x.seq - seq) ∧ l = []) := by
 refine spec_of Tryz.func160 rfl Tryz.ntmps160 Tryz.results160 _ (by simp) fun ι F => ?_
 refine vc_seq ?_
 refine vc_region ?_
 refine vc_box [_, _, _, _, _] rfl rfl rfl (fun b2 => ?_)
 refine vp ?_
 refine vc_nil ?_
 refine vc_then ?_
 refine vc_seq ?_
 refine vc_region ?_
 refine vc_y (y_fieldP fl_135_0 0 rfl rfl) rfl ?_
 refine vc_y (y_load1 0 rfl one_3 rfl (Pts.vis rfl)) rfl ?_
 refine vp ?_
 first | refine vc_y (y_arith _ rfl (wrap64 (by omega) (by omega))) rfl ?_ | refine vp ?_
 refine vp ?_
 refine vc_nil ?_
 refine vc_then ?_
 refine vc_ret ?_
 exact vc_end1 Tryz.results160 rfl _ (ent_pick [] rfl) ⟨rfl, rfl⟩
theorem bsV_spec {A : HP} {h : SH} {xs : List Ver} (hv : Vis A (Rd eVer h xs)) (hb : xs.length ≤ 1000000) (hc : chainRight xs = true) {seq : Int} (h1 : 1 ≤ seq) (h2 : seq ≤ 9223372036854775807) :
  Does Tryz.prog 159 [h.v, .int .i64 seq, .func (.func 160) #[] #[]] [A] (fun v l => v = .tuple #[.int .i64 (lbV xs seq : Int), .bool (fndV xs seq)] ∧ l = [A]) := by
 refine spec_of Tryz.func159 rfl Tryz.ntmps159 Tryz.results159 _ (by simp) fun ι F => ?_
 refine vc_see 0 rfl (hv.imp fun w r => r.len) (fun hlen => ?_)
 have hlb := lbV_le xs seq
 refine vc_seq ?_
 refine vc_region ?_
 refine vp ?_
 refine vp ?_
 refine vc_nil ?_
 refine vc_then ?_
 refine vc_seq ?_
 refine vc_region ?_
 refine vp ?_
 refine vc_y (y_len Tryz.underlying138 rfl (by first | assumption | rfl)) rfl ?_
 refine vp ?_
 refine vc_nil ?_
 refine vc_then ?_
 refine vc_seq ?_
 refine vc_region ?_
 iterate 3 refine vp ?_
 refine vc_nil ?_
 refine vc_then ?_
 refine vc_seq ?_
 refine vc_block ?_
 refine vc_loop (α := Nat × Nat) (fun xq_ => match xq_ with | (i, j) => [(0, h.v), (1, .int .i64 seq), (2, .func (.func 160) #[] #[]), (8, .int .i64 (xs.length : Int)), (9, .int .i64 (i : Int)), (10, .int .i64 (j : Int))]) (fun xq_ => match xq_ with | (i, j) => [A]) (fun xq_ => match xq_ with | (i, j) => j - i) (fun xq_ => match xq_ with | (i, j) => i ≤ lbV xs seq ∧ lbV xs seq ≤ j ∧ j ≤ xs.length) (0, xs.length) ⟨Nat.zero_le _, hlb, Nat.le_refl _⟩ ⟨rfl, rfl, rfl, rfl, rfl, rfl, trivial⟩ (ent_pick [0] rfl) ?_
 rintro ⟨i, j⟩ ⟨k1, k2, k3⟩
 show VC _ _ _ _ [(0, h.v), (1, .int .i64 seq), (2, .func (.func 160) #[] #[]), (8, .int .i64 (xs.length : Int)), (9, .int .i64 (i : Int)), (10, .int .i64 (j : Int))] ([A])
 refine vc_seq ?_
 refine vc_seq ?_
 refine vc_region ?_
 iterate 3 refine vp ?_
 refine vc_nil ?_
 refine vc_then ?_
 first | refine vc_condP rfl (fun c17 => ?_) (fun c17 => ?_) | refine vc_condN rfl (fun c17 => ?_) (fun c17 => ?_) | refine vc_cond rfl (fun c17 => ?_) (fun c17 => ?_)
 ·skip
  refine vc_skip ?_
  refine vc_then ?_
  refine vc_block ?_
  refine vc_seq ?_
  refine vc_region ?_
  refine vp ?_
  refine vp ?_
  first | refine vc_y (y_arith _ rfl (wrap64 (by omega) (by omega))) rfl ?_ | refine vp ?_
  first | refine vc_y (y_conv _ Tryz.underlying3 Tryz.underlying170 rfl (wrapU64 (by omega) (by omega))) rfl ?_ | refine vc_y (y_conv _ Tryz.underlying3 Tryz.underlying170 rfl rfl) rfl ?_
  refine vc_y (y_shr (((i + j) / 2 : Nat) : Int) rfl rfl (by decide) (shr1 i j)) rfl ?_
  first | refine vc_y (y_conv _ Tryz.underlying170 Tryz.underlying3 rfl (wrap64 (by omega) (by omega))) rfl ?_ | refine vc_y (y_conv _ Tryz.underlying170 Tryz.underlying3 rfl rfl) rfl ?_
  refine vp ?_
  refine vc_nil ?_
  refine vc_then ?_
  refine vc_seq ?_
  refine vc_region ?_
  have hsq := chain_seq hc (show (i + j) / 2 < xs.length by omega)
  iterate 3 refine vp ?_
  refine vc_y (y_elem 0 rfl (hv) ((i + j) / 2) rfl (by omega) sl_138 rfl rfl) rfl ?_
  refine vc_y (y_loadA 0 rfl (cs := [_, _, _, _, _]) ag_135 rfl (Rd.visA (hv) (List.getElem?_eq_getElem (by first | assumption | omega)) rfl)) rfl ?_
  refine vp ?_
  refine vc_callv ca_160 (us := []) (vs := []) rfl [_, _] rfl [] rfl (bh1_spec xs[(i + j) / 2] hsq h1 h2) rfl ?_
  rintro _ _ ⟨rfl, rfl⟩
  refine vp ?_
  refine vc_nil ?_
  refine vc_then ?_
  first | refine vc_condP rfl (fun c31 => ?_) (fun c31 => ?_) | refine vc_condN rfl (fun c31 => ?_) (fun c31 => ?_) | refine vc_cond rfl (fun c31 => ?_) (fun c31 => ?_)
  ·skip
   refine vc_region ?_
   refine vp ?_
   first | refine vc_y (y_arith _ rfl (wrapNadd (by omega))) rfl ?_ | refine vc_y (y_arith _ rfl (wrap64 (by omega) (by omega))) rfl ?_ | refine vp ?_
   refine vp ?_
   refine vc_nil ?_
   refine vc_inNormal ?_
   refine vc_then ?_
   first | exact vc_again (x := (i, j)) ((i + j) / 2 + 1, j) ⟨by have := (lbV_iff hc seq (i := (i + j) / 2) (by omega)).1 (by omega); omega, k2, k3⟩ (by show j - ((i + j) / 2 + 1) < j - i; omega) ⟨rfl, rfl, rfl, rfl, rfl, rfl, trivial⟩ (ent_pick [0] rfl) | exact vc_again (x := (i, j)) (i, (i + j) / 2) ⟨k1, by have := mt (lbV_iff hc seq (i := (i + j) / 2) (by omega)).2 (by omega); omega, by omega⟩ (by show (i + j) / 2 - i < j - i; omega) ⟨rfl, rfl, rfl, rfl, rfl, rfl, trivial⟩ (ent_pick [0] rfl)
  ·skip
   refine vc_region ?_
   refine vp ?_
   refine vp ?_
   refine vc_nil ?_
   refine vc_inNormal ?_
   refine vc_then ?_
   first | exact vc_again (x := (i, j)) ((i + j) / 2 + 1, j) ⟨by have := (lbV_iff hc seq (i := (i + j) / 2) (by omega)).1 (by omega); omega, k2, k3⟩ (by show j - ((i + j) / 2 + 1) < j - i; omega) ⟨rfl, rfl, rfl, rfl, rfl, rfl, trivial⟩ (ent_pick [0] rfl) | exact vc_again (x := (i, j)) (i, (i + j) / 2) ⟨k1, by have := mt (lbV_iff hc seq (i := (i + j) / 2) (by omega)).2 (by omega); omega, by omega⟩ (by show (i + j) / 2 - i < j - i; omega) ⟨rfl, rfl, rfl, rfl, rfl, rfl, trivial⟩ (ent_pick [0] rfl)
 ·skip
  obtain rfl : i = lbV xs seq := by omega
  refine vc_exit ?_
  refine vc_thenExit ?_
  refine vc_thenExit ?_
  refine vc_inExit ?_
  refine vc_then ?_
  refine vc_seq ?_
  refine vc_region ?_
  iterate 5 refine vp ?_
  first | refine vc_splitP 39 rfl (fun c39 => ?_) (fun c39 => ?_) | refine vc_splitN 39 rfl (fun c39 => ?_) (fun c39 => ?_) | refine vc_split 39 rfl (fun c39 => ?_) (fun c39 => ?_)
  ·skip
   have hlt : lbV xs seq < xs.length := by omega
   have hsq := chain_seq hc hlt
   refine vc_guardT 39 rfl rfl ?_
   refine vp ?_
   refine vc_guardT 39 rfl rfl ?_
   refine vp ?_
   refine vc_guardT 39 rfl rfl ?_
   refine vp ?_
   refine vc_guardT 39 rfl rfl ?_
   refine vc_y (y_elem 0 rfl (hv) (lbV xs seq) rfl hlt sl_138 rfl rfl) rfl ?_
   refine vc_guardT 39 rfl rfl ?_
   refine vc_y (y_loadA 0 rfl (cs := [_, _, _, _, _]) ag_135 rfl (Rd.visA (hv) (List.getElem?_eq_getElem (by first | assumption | omega)) rfl)) rfl ?_
   refine vc_guardT 39 rfl rfl ?_
   refine vp ?_
   refine vc_guardT 39 rfl rfl ?_
   refine vc_callv ca_160 (us := []) (vs := []) rfl [_, _] rfl [] rfl (bh1_spec (xs[lbV xs seq]'hlt) hsq h1 h2) rfl ?_
   rintro _ _ ⟨rfl, rfl⟩
   refine vc_guardT 39 rfl rfl ?_
   iterate 4 refine vp ?_
   refine vc_nil ?_
   refine vc_then ?_
   refine vc_ret ?_
   exact vc_end2 Tryz.results159 rfl rfl _ (ent_pick [0] rfl) ⟨by simp [fndV, hlt]; omega, rfl⟩
  ·skip
   refine vc_guardF 39 rfl rfl rfl rfl ?_
   refine vc_guardF 39 rfl rfl rfl rfl ?_
   refine vc_guardF 39 rfl rfl rfl rfl ?_
   refine vc_guardF 39 rfl rfl rfl rfl ?_
   refine vc_guardF 39 rfl rfl rfl rfl ?_
   refine vc_guardF 39 rfl rfl rfl rfl ?_
   refine vc_guardF 39 rfl rfl rfl rfl ?_
   refine vc_guardF 39 rfl rfl rfl rfl ?_
   iterate 3 refine vp ?_
   refine vc_nil ?_
   refine vc_then ?_
   refine vc_ret ?_
   exact vc_end2 Tryz.results159 rfl rfl _ (ent_pick [0] rfl) ⟨by simp [fndV, show ¬ lbV xs seq < xs.length by omega], rfl⟩
theorem behind_spec {A : HP} {h : SH} {xs : List Ver} (hv : Vis A (Rd eVer h xs)) (hb : xs.length ≤ 1000000) (hc : chainRight xs = true) {seq : Int} (h1 : 1 ≤ seq) (h2 : seq ≤ 9223372036854775807) :
  Does Tryz.prog 128 [h.v, .int .i64 seq] [A] (fun v l => v = .int .i64 (bhd xs seq : Int) ∧ l = [A]) := by
 refine spec_of Tryz.func128 rfl Tryz.ntmps128 Tryz.results128 _ (by simp) fun ι F => ?_
 have hbe := bhd_eq (last := 0) hc seq
 have hlb := lbV_le xs seq
 refine vc_seq ?_
 refine vc_region ?_
 refine vp ?_
 refine vc_nil ?_
 refine vc_then ?_
 refine vc_seq ?_
 refine vc_region ?_
 refine vp ?_
 refine vp ?_
 refine vc_callv ca_159 (us := []) (vs := []) rfl [_, _, _] rfl [0] rfl (bsV_spec hv hb hc h1 h2) rfl ?_
 rintro _ _ ⟨rfl, rfl⟩
 iterate 5 refine vp ?_
 refine vc_nil ?_
 refine vc_then ?_
 refine vc_seq ?_
 refine vc_seq ?_
 refine vc_region ?_
 refine vp ?_
 refine vc_nil ?_
 refine vc_then ?_
 first | refine vc_condP rfl (fun c13 => ?_) (fun c13 => ?_) | refine vc_condN rfl (fun c13 => ?_) (fun c13 => ?_) | refine vc_cond rfl (fun c13 => ?_) (fun c13 => ?_)
 ·skip
  have hf : bhd xs seq = lbV xs seq + 1 := by rw [hbe]; exact if_pos c13
  refine vc_region ?_
  refine vp ?_
  first | refine vc_y (y_arith _ rfl (wrapNadd (by omega))) rfl ?_ | refine vc_y (y_arith _ rfl (wrap64 (by omega) (by omega))) rfl ?_ | refine vp ?_
  refine vp ?_
  refine vc_nil ?_
  refine vc_then ?_
  refine vc_seq ?_
  refine vc_region ?_
  refine vp ?_
  refine vp ?_
  refine vc_nil ?_
  refine vc_then ?_
  refine vc_ret ?_
  exact vc_end1 Tryz.results128 rfl _ (ent_pick [0] rfl) ⟨by rw [hf]; try rfl, rfl⟩
 ·skip
  have hf : bhd xs seq = lbV xs seq := by rw [hbe]; exact if_neg (by intro h0; rw [h0] at c13; cases c13)
  refine vc_skip ?_
  refine vc_then ?_
  refine vc_seq ?_
  refine vc_region ?_
  refine vp ?_
  refine vp ?_
  refine vc_nil ?_
  refine vc_then ?_
  refine vc_ret ?_
  exact vc_end1 Tryz.results128 rfl _ (ent_pick [0] rfl) ⟨by rw [hf]; try rfl, rfl⟩
theorem At_spec {A : HP} {h : SH} {xs : List Ver} (hv : Vis A (Rd eVer h xs)) (hb : xs.length ≤ 1000000) {seq : Int} (h2 : seq ≤ 9223372036854775807) :
  Does Tryz.prog 81 [h.v, .int .i64 seq] [A] (fun v l => v = optVer (verAt xs seq) ∧ l = [A]) := by
 refine spec_of Tryz.func81 rfl Tryz.ntmps81 Tryz.results81 _ (by simp) fun ι F => ?_
 refine vc_seq ?_
 refine vc_region ?_
 refine vc_alloc [.int .i64 0, .bool false, .bool false, .string ⟨#[]⟩, .int .u64 0] ze_135 rfl rfl (fun b4 => ?_)
 refine vp ?_
 refine vc_nil ?_
 refine vc_then ?_
 refine vc_seq ?_
 refine vc_seq ?_
 refine vc_region ?_
 refine vp ?_
 refine vc_callv ca_127 (us := []) (vs := []) rfl [_] rfl [1] rfl (CRight_spec hv hb) rfl ?_
 rintro _ _ ⟨rfl, rfl⟩
 refine vp ?_
 refine vp ?_
 first | refine vc_splitP 10 rfl (fun c10 => ?_) (fun c10 => ?_) | refine vc_splitN 10 rfl (fun c10 => ?_) (fun c10 => ?_) | refine vc_split 10 rfl (fun c10 => ?_) (fun c10 => ?_)
 ·skip
  have hc : chainRight xs = false := by simpa using c10
  refine vc_guardF 10 rfl rfl rfl rfl ?_
  refine vc_guardF 10 rfl rfl rfl rfl ?_
  refine vp ?_
  refine vc_nil ?_
  refine vc_then ?_
  refine vc_condT rfl ?_
  refine vc_seq ?_
  refine vc_region ?_
  refine vc_y (y_build [] [_, _, _, _, _] rfl (bu_135_n  )) rfl ?_
  refine vc_storeP 1 rfl [_, _, _, _, _] [_, _, _, _, _] rfl rfl rfl sz_135 rfl rfl rfl ?_
  refine vp ?_
  refine vc_nil ?_
  refine vc_then ?_
  refine vc_ret ?_
  refine vc_thenRet ?_
  exact vc_endR Tryz.results81 (resL_cons (res_a 1 rfl (cs := [_, _, _, _, _]) ag_135 rfl (Pts.visA rfl)) (resL_cons (res_t rfl) (resL_nil))) _ (ent_pick [0] rfl) ⟨by simp [verAt, hc, optVer, ver0, val0, Ver.cs, tupV], rfl⟩
 ·skip
  have hc : chainRight xs = true := by simpa using c10
  have hbl := bhd_le xs seq
  refine vc_guardT 10 rfl rfl ?_
  refine vp ?_
  refine vc_guardT 10 rfl rfl ?_
  refine vp ?_
  refine vp ?_
  refine vc_nil ?_
  refine vc_then ?_
  first | refine vc_condP rfl (fun c13 => ?_) (fun c13 => ?_) | refine vc_condN rfl (fun c13 => ?_) (fun c13 => ?_) | refine vc_cond rfl (fun c13 => ?_) (fun c13 => ?_)
  ·skip
   refine vc_seq ?_
   refine vc_region ?_
   refine vc_y (y_build [] [_, _, _, _, _] rfl (bu_135_n  )) rfl ?_
   refine vc_storeP 1 rfl [_, _, _, _, _] [_, _, _, _, _] rfl rfl rfl sz_135 rfl rfl rfl ?_
   refine vp ?_
   refine vc_nil ?_
   refine vc_then ?_
   refine vc_ret ?_
   refine vc_thenRet ?_
   exact vc_endR Tryz.results81 (resL_cons (res_a 1 rfl (cs := [_, _, _, _, _]) ag_135 rfl (Pts.visA rfl)) (resL_cons (res_t rfl) (resL_nil))) _ (ent_pick [0] rfl) ⟨by simp [verAt, hc, show ¬ 1 ≤ seq by omega, optVer, ver0, val0, Ver.cs, tupV], rfl⟩
  ·skip
   refine vc_skip ?_
   refine vc_then ?_
   refine vc_seq ?_
   refine vc_region ?_
   refine vp ?_
   refine vp ?_
   refine vc_callv ca_128 (us := []) (vs := []) rfl [_, _] rfl [0] rfl (behind_spec hv hb hc (by omega) h2) rfl ?_
   rintro _ _ ⟨rfl, rfl⟩
   refine vp ?_
   refine vc_nil ?_
   refine vc_then ?_
   refine vc_seq ?_
   refine vc_seq ?_
   refine vc_region ?_
   iterate 3 refine vp ?_
   first | refine vc_splitP 20 rfl (fun c20 => ?_) (fun c20 => ?_) | refine vc_splitN 20 rfl (fun c20 => ?_) (fun c20 => ?_) | refine vc_split 20 rfl (fun c20 => ?_) (fun c20 => ?_)
   ·skip
    have hz : bhd xs seq = 0 := by omega
    refine vc_guardF 20 rfl rfl rfl rfl ?_
    refine vc_guardF 20 rfl rfl rfl rfl ?_
    refine vc_guardF 20 rfl rfl rfl rfl ?_
    refine vc_guardF 20 rfl rfl rfl rfl ?_
    refine vc_guardF 20 rfl rfl rfl rfl ?_
    refine vc_guardF 20 rfl rfl rfl rfl ?_
    refine vp ?_
    refine vc_nil ?_
    refine vc_then ?_
    refine vc_condT rfl ?_
    refine vc_seq ?_
    refine vc_region ?_
    refine vc_y (y_build [] [_, _, _, _, _] rfl (bu_135_n  )) rfl ?_
    refine vc_storeP 1 rfl [_, _, _, _, _] [_, _, _, _, _] rfl rfl rfl sz_135 rfl rfl rfl ?_
    refine vp ?_
    refine vc_nil ?_
    refine vc_then ?_
    refine vc_ret ?_
    refine vc_thenRet ?_
    exact vc_endR Tryz.results81 (resL_cons (res_a 1 rfl (cs := [_, _, _, _, _]) ag_135 rfl (Pts.visA rfl)) (resL_cons (res_t rfl) (resL_nil))) _ (ent_pick [0] rfl) ⟨by
     have : verAt xs seq = none := by
      simp only [verAt, hc, hz, show (1 : Int) ≤ seq by omega]
      simp
      split <;> rfl
     rw [this]; rfl, rfl⟩
   ·skip
    have hnz : bhd xs seq - 1 < xs.length := by omega
    refine vc_guardT 20 rfl rfl ?_
    refine vp ?_
    refine vc_guardT 20 rfl rfl ?_
    refine vp ?_
    refine vc_guardT 20 rfl rfl ?_
    refine vc_y (y_arith ((bhd xs seq - 1 : Nat) : Int) rfl (wrapNsub (by omega))) rfl ?_
    refine vc_guardT 20 rfl rfl ?_
    refine vc_y (y_elem 0 rfl (hv) (bhd xs seq - 1) rfl hnz sl_138 rfl rfl) rfl ?_
    refine vc_guardT 20 rfl rfl ?_
    refine vc_y (y_fieldE fl_135_1 1 rfl rfl) rfl ?_
    refine vc_guardT 20 rfl rfl ?_
    refine vc_y (y_load1 0 rfl one_4 rfl (Rd.vis1 (hv) (List.getElem?_eq_getElem (by first | assumption | omega)) rfl)) rfl ?_
    refine vp ?_
    refine vc_nil ?_
    refine vc_then ?_
    first | refine vc_condP rfl (fun c27 => ?_) (fun c27 => ?_) | refine vc_condN rfl (fun c27 => ?_) (fun c27 => ?_) | refine vc_cond rfl (fun c27 => ?_) (fun c27 => ?_)
    ·skip
     refine vc_seq ?_
     refine vc_region ?_
     refine vc_y (y_build [] [_, _, _, _, _] rfl (bu_135_n  )) rfl ?_
     refine vc_storeP 1 rfl [_, _, _, _, _] [_, _, _, _, _] rfl rfl rfl sz_135 rfl rfl rfl ?_
     refine vp ?_
     refine vc_nil ?_
     refine vc_then ?_
     refine vc_ret ?_
     refine vc_thenRet ?_
     exact vc_endR Tryz.results81 (resL_cons (res_a 1 rfl (cs := [_, _, _, _, _]) ag_135 rfl (Pts.visA rfl)) (resL_cons (res_t rfl) (resL_nil))) _ (ent_pick [0] rfl) ⟨by
      have : verAt xs seq = none := by
       simp only [verAt, hc, show (1 : Int) ≤ seq by omega, List.getElem?_eq_getElem hnz]
       simp [c27]
      rw [this]; rfl, rfl⟩
    ·skip
     refine vc_skip ?_
     refine vc_then ?_
     refine vc_seq ?_
     refine vc_region ?_
     refine vp ?_
     refine vp ?_
     refine vc_y (y_arith ((bhd xs seq - 1 : Nat) : Int) rfl (wrapNsub (by omega))) rfl ?_
     refine vc_y (y_elem 0 rfl (hv) (bhd xs seq - 1) rfl hnz sl_138 rfl rfl) rfl ?_
     refine vc_y (y_loadA 0 rfl (cs := [_, _, _, _, _]) ag_135 rfl (Rd.visA (hv) (List.getElem?_eq_getElem (by first | assumption | omega)) rfl)) rfl ?_
     refine vc_storeP 1 rfl [_, _, _, _, _] [_, _, _, _, _] rfl rfl rfl sz_135 rfl rfl rfl ?_
     refine vp ?_
     refine vc_nil ?_
     refine vc_then ?_
     refine vc_ret ?_
     exact vc_endR Tryz.results81 (resL_cons (res_a 1 rfl (cs := [_, _, _, _, _]) ag_135 rfl (Pts.visA rfl)) (resL_cons (res_t rfl) (resL_nil))) _ (ent_pick [0] rfl) ⟨by
      have : verAt xs seq = some xs[bhd xs seq - 1] := by
       simp only [verAt, hc, show (1 : Int) ≤ seq by omega, List.getElem?_eq_getElem hnz]
       simp [c27, show ¬ bhd xs seq = 0 by omega]
      rw [this]; rfl, rfl⟩
theorem Last_spec {A : HP} {h : SH} {xs : List Ver} (hv : Vis A (Rd eVer h xs)) (hb : xs.length ≤ 1000000) :
  Does Tryz.prog 85 [h.v] [A] (fun v l => v = optVer (verLast xs) ∧ l = [A]) := by
 refine spec_of Tryz.func85 rfl Tryz.ntmps85 Tryz.results85 _ (by simp) fun ι F => ?_
 refine vc_see 0 rfl (hv.imp fun w r => r.len) (fun hlen => ?_)
 refine vc_seq ?_
 refine vc_region ?_
 refine vc_alloc [.int .i64 0, .bool false, .bool false, .string ⟨#[]⟩, .int .u64 0] ze_135 rfl rfl (fun b2 => ?_)
 refine vp ?_
 refine vc_nil ?_
 refine vc_then ?_
 refine vc_seq ?_
 refine vc_seq ?_
 refine vc_region ?_
 refine vp ?_
 refine vc_callv ca_127 (us := []) (vs := []) rfl [_] rfl [1] rfl (CRight_spec hv hb) rfl ?_
 rintro _ _ ⟨rfl, rfl⟩
 refine vp ?_
 refine vp ?_
 first | refine vc_splitP 7 rfl (fun c7 => ?_) (fun c7 => ?_) | refine vc_splitN 7 rfl (fun c7 => ?_) (fun c7 => ?_) | refine vc_split 7 rfl (fun c7 => ?_) (fun c7 => ?_)
 ·skip
  have hc : chainRight xs = false := by simpa using c7
  refine vc_guardF 7 rfl rfl rfl rfl ?_
  refine vc_guardF 7 rfl rfl rfl rfl ?_
  refine vc_guardF 7 rfl rfl rfl rfl ?_
  refine vp ?_
  refine vc_nil ?_
  refine vc_then ?_
  refine vc_condT rfl ?_
  refine vc_seq ?_
  refine vc_region ?_
  refine vc_y (y_build [] [_, _, _, _, _] rfl (bu_135_n  )) rfl ?_
  refine vc_storeP 1 rfl [_, _, _, _, _] [_, _, _, _, _] rfl rfl rfl sz_135 rfl rfl rfl ?_
  refine vp ?_
  refine vc_nil ?_
  refine vc_then ?_
  refine vc_ret ?_
  refine vc_thenRet ?_
  exact vc_endR Tryz.results85 (resL_cons (res_a 1 rfl (cs := [_, _, _, _, _]) ag_135 rfl (Pts.visA rfl)) (resL_cons (res_t rfl) (resL_nil))) _ (ent_pick [0] rfl) ⟨by simp [verLast, hc, optVer, ver0, val0, Ver.cs, tupV], rfl⟩
 ·skip
  have hc : chainRight xs = true := by simpa using c7
  refine vc_guardT 7 rfl rfl ?_
  refine vp ?_
  refine vc_guardT 7 rfl rfl ?_
  refine vc_y (y_len Tryz.underlying138 rfl (by first | assumption | rfl)) rfl ?_
  refine vc_guardT 7 rfl rfl ?_
  refine vp ?_
  refine vp ?_
  refine vc_nil ?_
  refine vc_then ?_
  first | refine vc_condP rfl (fun c11 => ?_) (fun c11 => ?_) | refine vc_condN rfl (fun c11 => ?_) (fun c11 => ?_) | refine vc_cond rfl (fun c11 => ?_) (fun c11 => ?_)
  ·skip
   refine vc_seq ?_
   refine vc_region ?_
   refine vc_y (y_build [] [_, _, _, _, _] rfl (bu_135_n  )) rfl ?_
   refine vc_storeP 1 rfl [_, _, _, _, _] [_, _, _, _, _] rfl rfl rfl sz_135 rfl rfl rfl ?_
   refine vp ?_
   refine vc_nil ?_
   refine vc_then ?_
   refine vc_ret ?_
   refine vc_thenRet ?_
   exact vc_endR Tryz.results85 (resL_cons (res_a 1 rfl (cs := [_, _, _, _, _]) ag_135 rfl (Pts.visA rfl)) (resL_cons (res_t rfl) (resL_nil))) _ (ent_pick [0] rfl) ⟨by simp [verLast, hc, show xs = [] from List.length_eq_zero_iff.1 (by omega), optVer, ver0, val0, Ver.cs, tupV], rfl⟩
  ·skip
   refine vc_skip ?_
   refine vc_then ?_
   refine vc_seq ?_
   refine vc_region ?_
   refine vp ?_
   refine vp ?_
   refine vc_y (y_len Tryz.underlying138 rfl (by first | assumption | rfl)) rfl ?_
   refine vc_y (y_arith ((xs.length - 1 : Nat) : Int) rfl (wrapNsub (by omega))) rfl ?_
   refine vc_y (y_elem 0 rfl (hv) (xs.length - 1) rfl (by omega) sl_138 rfl rfl) rfl ?_
   refine vc_y (y_loadA 0 rfl (cs := [_, _, _, _, _]) ag_135 rfl (Rd.visA (hv) (List.getElem?_eq_getElem (by first | assumption | omega)) rfl)) rfl ?_
   refine vc_storeP 1 rfl [_, _, _, _, _] [_, _, _, _, _] rfl rfl rfl sz_135 rfl rfl rfl ?_
   refine vp ?_
   refine vc_nil ?_
   refine vc_then ?_
   refine vc_ret ?_
   exact vc_endR Tryz.results85 (resL_cons (res_a 1 rfl (cs := [_, _, _, _, _]) ag_135 rfl (Pts.visA rfl)) (resL_cons (res_t rfl) (resL_nil))) _ (ent_pick [0] rfl) ⟨by
    have : verLast xs = some (xs[xs.length - 1]'(by omega)) := by simp only [verLast, hc, if_true]; exact List.getElem?_eq_getElem (by omega)
    rw [this]; rfl, rfl⟩
theorem Old_spec {A : HP} {h : SH} {xs : List Ver} (hv : Vis A (Rd eVer h xs)) (hb : xs.length ≤ 1000000) {seq : Int} (h2 : seq ≤ 9223372036854775807) :
  Does Tryz.prog 77 [h.v, .int .i64 seq] [A] (fun v l => v = .int .i64 (verOld xs seq : Int) ∧ l = [A]) := by
 refine spec_of Tryz.func77 rfl Tryz.ntmps77 Tryz.results77 _ (by simp) fun ι F => ?_
 refine vc_seq ?_
 refine vc_region ?_
 refine vp ?_
 refine vc_nil ?_
 refine vc_then ?_
 refine vc_seq ?_
 refine vc_seq ?_
 refine vc_region ?_
 refine vp ?_
 refine vc_callv ca_127 (us := []) (vs := []) rfl [_] rfl [0] rfl (CRight_spec hv hb) rfl ?_
 rintro _ _ ⟨rfl, rfl⟩
 refine vp ?_
 refine vp ?_
 first | refine vc_splitP 9 rfl (fun c9 => ?_) (fun c9 => ?_) | refine vc_splitN 9 rfl (fun c9 => ?_) (fun c9 => ?_) | refine vc_split 9 rfl (fun c9 => ?_) (fun c9 => ?_)
 ·skip
  have hc : chainRight xs = false := by simpa using c9
  refine vc_guardF 9 rfl rfl rfl rfl ?_
  refine vc_guardF 9 rfl rfl rfl rfl ?_
  refine vp ?_
  refine vc_nil ?_
  refine vc_then ?_
  refine vc_condT rfl ?_
  refine vc_seq ?_
  refine vc_region ?_
  refine vp ?_
  refine vc_nil ?_
  refine vc_then ?_
  refine vc_ret ?_
  refine vc_thenRet ?_
  exact vc_end1 Tryz.results77 rfl _ (ent_pick [0] rfl) ⟨by simp [verOld, hc], rfl⟩
 ·skip
  have hc : chainRight xs = true := by simpa using c9
  have hbl := bhd_le xs seq
  refine vc_guardT 9 rfl rfl ?_
  refine vp ?_
  refine vc_guardT 9 rfl rfl ?_
  refine vp ?_
  refine vp ?_
  refine vc_nil ?_
  refine vc_then ?_
  first | refine vc_condP rfl (fun c12 => ?_) (fun c12 => ?_) | refine vc_condN rfl (fun c12 => ?_) (fun c12 => ?_) | refine vc_cond rfl (fun c12 => ?_) (fun c12 => ?_)
  ·skip
   refine vc_seq ?_
   refine vc_region ?_
   refine vp ?_
   refine vc_nil ?_
   refine vc_then ?_
   refine vc_ret ?_
   refine vc_thenRet ?_
   exact vc_end1 Tryz.results77 rfl _ (ent_pick [0] rfl) ⟨by simp [verOld, hc, show ¬ 1 ≤ seq by omega], rfl⟩
  ·skip
   refine vc_skip ?_
   refine vc_then ?_
   refine vc_seq ?_
   refine vc_region ?_
   refine vp ?_
   refine vp ?_
   refine vc_callv ca_128 (us := []) (vs := []) rfl [_, _] rfl [0] rfl (behind_spec hv hb hc (by omega) h2) rfl ?_
   rintro _ _ ⟨rfl, rfl⟩
   refine vp ?_
   refine vc_nil ?_
   refine vc_then ?_
   refine vc_seq ?_
   refine vc_seq ?_
   refine vc_region ?_
   iterate 3 refine vp ?_
   first | refine vc_splitP 18 rfl (fun c18 => ?_) (fun c18 => ?_) | refine vc_splitN 18 rfl (fun c18 => ?_) (fun c18 => ?_) | refine vc_split 18 rfl (fun c18 => ?_) (fun c18 => ?_)
   ·skip
    have hnz : bhd xs seq - 1 < xs.length := by omega
    refine vc_guardT 18 rfl rfl ?_
    refine vp ?_
    refine vc_guardT 18 rfl rfl ?_
    refine vp ?_
    refine vc_guardT 18 rfl rfl ?_
    refine vc_y (y_arith ((bhd xs seq - 1 : Nat) : Int) rfl (wrapNsub (by omega))) rfl ?_
    refine vc_guardT 18 rfl rfl ?_
    refine vc_y (y_elem 0 rfl (hv) (bhd xs seq - 1) rfl hnz sl_138 rfl rfl) rfl ?_
    refine vc_guardT 18 rfl rfl ?_
    refine vc_y (y_fieldE fl_135_1 1 rfl rfl) rfl ?_
    refine vc_guardT 18 rfl rfl ?_
    refine vc_y (y_load1 0 rfl one_4 rfl (Rd.vis1 (hv) (List.getElem?_eq_getElem (by first | assumption | omega)) rfl)) rfl ?_
    refine vc_guardT 18 rfl rfl ?_
    refine vp ?_
    refine vp ?_
    refine vc_nil ?_
    refine vc_then ?_
    first | refine vc_condP rfl (fun c26 => ?_) (fun c26 => ?_) | refine vc_condN rfl (fun c26 => ?_) (fun c26 => ?_) | refine vc_cond rfl (fun c26 => ?_) (fun c26 => ?_)
    ·skip
     refine vc_region ?_
     refine vp ?_
     refine vc_y (y_arith ((bhd xs seq - 1 : Nat) : Int) rfl (wrapNsub (by omega))) rfl ?_
     refine vp ?_
     refine vc_nil ?_
     refine vc_then ?_
     refine vc_seq ?_
     refine vc_region ?_
     refine vp ?_
     refine vp ?_
     refine vc_nil ?_
     refine vc_then ?_
     refine vc_ret ?_
     exact vc_end1 Tryz.results77 rfl _ (ent_pick [0] rfl) ⟨by
      have : verOld xs seq = bhd xs seq - 1 := by
       simp only [verOld, hc, show (1 : Int) ≤ seq by omega, List.getElem?_eq_getElem hnz]
       simp at c26
       simp [c26, show 0 < bhd xs seq by omega]
      rw [this], rfl⟩
    ·skip
     refine vc_skip ?_
     refine vc_then ?_
     refine vc_seq ?_
     refine vc_region ?_
     refine vp ?_
     refine vp ?_
     refine vc_nil ?_
     refine vc_then ?_
     refine vc_ret ?_
     exact vc_end1 Tryz.results77 rfl _ (ent_pick [0] rfl) ⟨by
      have : verOld xs seq = bhd xs seq := by
       simp only [verOld, hc, show (1 : Int) ≤ seq by omega, List.getElem?_eq_getElem hnz]
       simp at c26
       simp [c26]
      rw [this], rfl⟩
   ·skip
    have hz : bhd xs seq = 0 := by omega
    refine vc_guardF 18 rfl rfl rfl rfl ?_
    refine vc_guardF 18 rfl rfl rfl rfl ?_
    refine vc_guardF 18 rfl rfl rfl rfl ?_
    refine vc_guardF 18 rfl rfl rfl rfl ?_
    refine vc_guardF 18 rfl rfl rfl rfl ?_
    refine vc_guardF 18 rfl rfl rfl rfl ?_
    refine vc_guardF 18 rfl rfl rfl rfl ?_
    refine vp ?_
    refine vc_nil ?_
    refine vc_then ?_
    refine vc_condF rfl ?_
    refine vc_skip ?_
    refine vc_then ?_
    refine vc_seq ?_
    refine vc_region ?_
    refine vp ?_
    refine vp ?_
    refine vc_nil ?_
    refine vc_then ?_
    refine vc_ret ?_
    exact vc_end1 Tryz.results77 rfl _ (ent_pick [0] rfl) ⟨by
     have : verOld xs seq = 0 := by
      simp only [verOld, hc, show (1 : Int) ≤ seq by omega, hz]
      simp
      split <;> rfl
     rw [this, hz], rfl⟩
theorem cloneV_spec {A : HP} {h : SH} {xs : List Ver} (hv : Vis A (Rd eVer h xs)) (hb : xs.length ≤ 1000000) :
  Does Tryz.prog 131 [h.v] [A] (fun v l => ∃ h', v = h'.v ∧ l = [Sl eVer h' xs, A]) := by
 refine spec_of Tryz.func131 rfl Tryz.ntmps131 Tryz.results131 _ (by simp) fun ι F => ?_
 refine vc_see 0 rfl (hv.imp fun w r => (⟨r.len, r.adr⟩ : h.len = xs.length ∧ (h.a = some ⟨h.blk, h.off, none⟩ ∨ (xs = [] ∧ h.cap = 0)))) (fun hlen => ?_)
 refine vc_seq ?_
 refine vc_region ?_
 refine vp ?_
 refine vc_nil ?_
 refine vc_then ?_
 refine vc_seq ?_
 refine vc_seq ?_
 refine vc_region ?_
 refine vp ?_
 refine vc_y (y_sliceNil Tryz.underlying138 rfl rfl) rfl ?_
 refine vc_nil ?_
 refine vc_then ?_
 first | refine vc_condP rfl (fun c4 => ?_) (fun c4 => ?_) | refine vc_condN rfl (fun c4 => ?_) (fun c4 => ?_) | refine vc_cond rfl (fun c4 => ?_) (fun c4 => ?_)
 ·skip
  obtain rfl : xs = [] := by
   rcases hlen.2 with h0 | h0
   ·rw [h0] at c4; cases c4
   ·exact h0.1
  refine vc_ent (l' := Sl eVer nilS [] :: _) sl_new ?_
  refine vc_seq ?_
  refine vc_region ?_
  refine vp ?_
  refine vc_nil ?_
  refine vc_then ?_
  refine vc_ret ?_
  refine vc_thenRet ?_
  exact vc_end1 Tryz.results131 rfl _ (Ent.rfl) ⟨nilS, rfl, rfl⟩
 ·skip
  refine vc_skip ?_
  refine vc_then ?_
  refine vc_seq ?_
  refine vc_region ?_
  refine vc_buildSlice (E := eVer) [] [] rfl rfl (bs_138_0  ) rfl (fun h5 => ?_)
  refine vp ?_
  refine vc_append 0 rfl 1 rfl (hv) el_138_eVer Tryz.underlying138 rfl rfl (by simp; omega) (by simp; omega) rfl (fun h7 => ?_)
  refine vp ?_
  refine vc_nil ?_
  refine vc_then ?_
  refine vc_ret ?_
  exact vc_end1 Tryz.results131 rfl _ (ent_pick [0, 0] rfl) ⟨h7, rfl, rfl⟩
theorem Sweep_spec {A : HP} {h : SH} {xs : List Ver} (hv : Vis A (Rd eVer h xs)) (hb : xs.length ≤ 1000000) {seq : Int} (h2 : seq ≤ 9223372036854775807) :
  Does Tryz.prog 79 [h.v, .int .i64 seq] [A] (fun v l => ∃ h', v = h'.v ∧ l = [Sl eVer h' (verSweep xs seq), A]) := by
 refine spec_of Tryz.func79 rfl Tryz.ntmps79 Tryz.results79 _ (by simp) fun ι F => ?_
 refine vc_see 0 rfl (hv.imp fun w r => (⟨r.len, r.cap⟩ : h.len = xs.length ∧ xs.length ≤ h.cap)) (fun hlc => ?_)
 obtain ⟨hlen, hcap⟩ := hlc
 have hol := verOld_le xs seq
 refine vc_seq ?_
 refine vc_region ?_
 refine vp ?_
 refine vc_nil ?_
 refine vc_then ?_
 refine vc_seq ?_
 refine vc_seq ?_
 refine vc_region ?_
 refine vp ?_
 refine vc_callv ca_127 (us := []) (vs := []) rfl [_] rfl [0] rfl (CRight_spec hv hb) rfl ?_
 rintro _ _ ⟨rfl, rfl⟩
 refine vp ?_
 refine vc_nil ?_
 refine vc_then ?_
 first | refine vc_condP rfl (fun c7 => ?_) (fun c7 => ?_) | refine vc_condN rfl (fun c7 => ?_) (fun c7 => ?_) | refine vc_cond rfl (fun c7 => ?_) (fun c7 => ?_)
 ·skip
  have hc : chainRight xs = false := by simpa using c7
  refine vc_ent (l' := Sl eVer nilS [] :: _) sl_new ?_
  refine vc_seq ?_
  refine vc_region ?_
  refine vp ?_
  refine vc_nil ?_
  refine vc_then ?_
  refine vc_ret ?_
  refine vc_thenRet ?_
  exact vc_end1 Tryz.results79 rfl _ (ent_pick [0, 0] rfl) ⟨nilS, rfl, by simp [verSweep, hc]⟩
 ·skip
  have hc : chainRight xs = true := by simpa using c7
  refine vc_skip ?_
  refine vc_then ?_
  refine vc_seq ?_
  refine vc_region ?_
  iterate 3 refine vp ?_
  refine vc_callv ca_77 (us := []) (vs := []) rfl [_, _] rfl [0] rfl (Old_spec hv hb h2) rfl ?_
  rintro _ _ ⟨rfl, rfl⟩
  refine vc_y (y_slice sl_138 rfl (verOld xs seq) h.len h.cap ⟨_, _, rfl, rfl⟩ rfl rfl (by simp) (by omega) (by omega) (by omega)) rfl ?_
  refine vc_callv ca_131 (us := []) (vs := []) rfl [_] rfl [0] rfl (cloneV_spec (hv.imp fun w r => r.cutD hol) (by simp; omega)) rfl ?_
  rintro _ _ ⟨g, rfl, rfl⟩
  refine vp ?_
  refine vc_nil ?_
  refine vc_then ?_
  refine vc_ret ?_
  exact vc_end1 Tryz.results79 rfl _ (ent_pick [0, 0] rfl) ⟨g, rfl, by simp [verSweep, hc]⟩
theorem Add_spec {A : HP} {h : SH} {xs : List Ver} (hv : Vis A (Rd eVer h xs)) (hb : xs.length ≤ 1000000) (hb2 : xs.length < 1000000) (x : Ver) (hR : chainRight (xs ++ [x]) = true) :
  Does Tryz.prog 123 [h.v, .agg #[.int .i64 x.seq, .bool x.gone, .bool x.val.num, .string x.val.text, .int .u64 x.val.bits]] [A] (fun v l => ∃ h', v = .tuple #[h'.v, .int .i64 0] ∧ l = [Sl eVer h' (xs ++ [x]), A]) := by
 refine spec_of Tryz.func123 rfl Tryz.ntmps123 Tryz.results123 _ (by simp) fun ι F => ?_
 refine vc_seq ?_
 refine vc_region ?_
 refine vc_box [_, _, _, _, _] rfl rfl rfl (fun b3 => ?_)
 refine vp ?_
 refine vp ?_
 refine vc_nil ?_
 refine vc_then ?_
 refine vc_seq ?_
 refine vc_draw (by kernel_rfl) _ none [1, 0] rfl ?_
 refine tpp 0 ?_
 refine tk 2 rfl (by exact y_loadA 1 rfl (cs := [_, _, _, _, _]) ag_135 rfl (Pts.visA rfl)) ?_
 refine va_ready [1, 3] (by kernel_rfl) rfl ?_
 refine vo_cons rfl (fun hC0 => ?_) ?_
 ·skip
  refine vc_callv ca_131 (us := []) (vs := []) rfl [_] rfl [1] rfl (cloneV_spec hv hb) rfl ?_
  rintro _ _ ⟨g, rfl, rfl⟩
  refine vc_nil ?_
  refine vc_then ?_
  refine va_kept hC0 [1, 1] rfl ?_
  clear hC0
  refine va_ready [3] (by kernel_rfl) rfl ?_
  refine vo_cons rfl (fun hC0 => ?_) ?_
  ·skip
   refine vc_buildSlice (E := eVer) [(0, _)] [x] rfl rfl (bs_138_1 _ _ _ _ _ ) rfl (fun h10 => ?_)
   refine vc_nil ?_
   refine vc_then ?_
   refine va_kept hC0 [2, 2] rfl ?_
   clear hC0
   refine va_ready [4] (by kernel_rfl) rfl ?_
   refine vo_cons rfl (fun hC0 => ?_) ?_
   ·skip
    refine vc_append 1 rfl 0 rfl (Sl.vis) el_138_eVer Tryz.underlying138 rfl rfl (by simp; omega) (by simp; omega) rfl (fun h11 => ?_)
    refine vc_nil ?_
    refine vc_then ?_
    refine va_kept hC0 [2, 2] rfl ?_
    clear hC0
    refine tpp 5 ?_
    refine va_done (by kernel_rfl) ?_
    refine vc_then ?_
    refine vc_seq ?_
    refine vc_seq ?_
    refine vc_region ?_
    refine vp ?_
    refine vc_callv ca_127 (us := []) (vs := []) rfl [_] rfl [1] rfl (CRight_spec (xs := xs ++ [x]) Sl.vis (by simp; omega)) rfl ?_
    rintro _ _ ⟨rfl, rfl⟩
    refine vp ?_
    refine vc_nil ?_
    refine vc_then ?_
    first | refine vc_condP rfl (fun c14 => ?_) (fun c14 => ?_) | refine vc_condN rfl (fun c14 => ?_) (fun c14 => ?_) | refine vc_cond rfl (fun c14 => ?_) (fun c14 => ?_)
    ·skip
     exact absurd hR (by simpa using c14)
    ·skip
     refine vc_skip ?_
     refine vc_then ?_
     refine vc_seq ?_
     refine vc_region ?_
     iterate 3 refine vp ?_
     refine vc_nil ?_
     refine vc_then ?_
     refine vc_ret ?_
     exact vc_end2 Tryz.results123 rfl rfl _ (ent_pick [0, 1] rfl) ⟨_, rfl, rfl⟩
   exact vo_nil
  exact vo_nil
 refine vo_cons rfl (fun hC0 => ?_) ?_
 ·skip
  refine vc_buildSlice (E := eVer) [(0, _)] [x] rfl rfl (bs_138_1 _ _ _ _ _ ) rfl (fun h10 => ?_)
  refine vc_nil ?_
  refine vc_then ?_
  refine va_kept hC0 [2, 1] rfl ?_
  clear hC0
  refine va_ready [1] (by kernel_rfl) rfl ?_
  refine vo_cons rfl (fun hC0 => ?_) ?_
  ·skip
   refine vc_callv ca_131 (us := []) (vs := []) rfl [_] rfl [2] rfl (cloneV_spec hv hb) rfl ?_
   rintro _ _ ⟨g, rfl, rfl⟩
   refine vc_nil ?_
   refine vc_then ?_
   refine va_kept hC0 [1, 2] rfl ?_
   clear hC0
   refine va_ready [4] (by kernel_rfl) rfl ?_
   refine vo_cons rfl (fun hC0 => ?_) ?_
   ·skip
    refine vc_append 0 rfl 2 rfl (Sl.vis) el_138_eVer Tryz.underlying138 rfl rfl (by simp; omega) (by simp; omega) rfl (fun h11 => ?_)
    refine vc_nil ?_
    refine vc_then ?_
    refine va_kept hC0 [1, 2] rfl ?_
    clear hC0
    refine tpp 5 ?_
    refine va_done (by kernel_rfl) ?_
    refine vc_then ?_
    refine vc_seq ?_
    refine vc_seq ?_
    refine vc_region ?_
    refine vp ?_
    refine vc_callv ca_127 (us := []) (vs := []) rfl [_] rfl [0] rfl (CRight_spec (xs := xs ++ [x]) Sl.vis (by simp; omega)) rfl ?_
    rintro _ _ ⟨rfl, rfl⟩
    refine vp ?_
    refine vc_nil ?_
    refine vc_then ?_
    first | refine vc_condP rfl (fun c14 => ?_) (fun c14 => ?_) | refine vc_condN rfl (fun c14 => ?_) (fun c14 => ?_) | refine vc_cond rfl (fun c14 => ?_) (fun c14 => ?_)
    ·skip
     exact absurd hR (by simpa using c14)
    ·skip
     refine vc_skip ?_
     refine vc_then ?_
     refine vc_seq ?_
     refine vc_region ?_
     iterate 3 refine vp ?_
     refine vc_nil ?_
     refine vc_then ?_
     refine vc_ret ?_
     exact vc_end2 Tryz.results123 rfl rfl _ (ent_pick [0, 0] rfl) ⟨_, rfl, rfl⟩
   exact vo_nil
  exact vo_nil
 exact vo_nil
theorem place_spec (b : Nat) : Does Tryz.prog 219 [.float .f64 b] [] (fun v l => ∃ z, v = .int .u64 z ∧ l = []) := by
 refine spec_of Tryz.func219 rfl Tryz.ntmps219 Tryz.results219 _ (by simp) fun ι F => ?_
 refine vc_seq ?_
 refine vc_region ?_
 refine vp ?_
 refine vc_nil ?_
 refine vc_then ?_
 refine vc_seq ?_
 refine vc_region ?_
 refine vp ?_
 refine vc_callv ca_134 (us := []) (vs := []) rfl [_] rfl [] rfl (bits_spec _) rfl ?_
 rintro _ _ ⟨rfl, rfl⟩
 refine vp ?_
 refine vc_nil ?_
 refine vc_then ?_
 refine vc_seq ?_
 refine vc_block ?_
 refine vc_seq ?_
 refine vc_region ?_
 iterate 3 refine vp ?_
 refine vc_nil ?_
 refine vc_then ?_
 first | refine vc_condP rfl (fun c6 => ?_) (fun c6 => ?_) | refine vc_condN rfl (fun c6 => ?_) (fun c6 => ?_) | refine vc_cond rfl (fun c6 => ?_) (fun c6 => ?_)
 ·skip
  refine vc_seq ?_
  refine vc_region ?_
  refine vp ?_
  refine vc_nil ?_
  refine vc_then ?_
  refine vc_ret ?_
  refine vc_inRet ?_
  refine vc_thenRet ?_
  exact vc_end1 Tryz.results219 rfl _ (ent_pick [] rfl) ⟨_, rfl, rfl⟩
 ·skip
  refine vc_seq ?_
  refine vc_region ?_
  refine vp ?_
  refine vc_y (y_and _ rfl rfl rfl) rfl ?_
  refine vp ?_
  refine vp ?_
  refine vc_nil ?_
  refine vc_then ?_
  first | refine vc_condP rfl (fun c9 => ?_) (fun c9 => ?_) | refine vc_condN rfl (fun c9 => ?_) (fun c9 => ?_) | refine vc_cond rfl (fun c9 => ?_) (fun c9 => ?_)
  ·skip
   refine vc_seq ?_
   refine vc_region ?_
   refine vp ?_
   refine vc_y (y_bin _ rfl rfl (fun w => by simp [eqGuard]) (fun w => rfl)) rfl ?_
   first | refine vc_y (y_arith _ rfl (wrapU64 (by omega) (by omega))) rfl ?_ | refine vp ?_
   refine vp ?_
   refine vc_nil ?_
   refine vc_then ?_
   refine vc_ret ?_
   refine vc_inRet ?_
   refine vc_thenRet ?_
   exact vc_end1 Tryz.results219 rfl _ (ent_pick [] rfl) ⟨_, rfl, rfl⟩
  ·skip
   refine vc_skip ?_
   refine vc_inNormal ?_
   refine vc_then ?_
   refine vc_seq ?_
   refine vc_region ?_
   refine vp ?_
   first | refine vc_y (y_arith _ rfl (wrapU64 (by omega) (by omega))) rfl ?_ | refine vp ?_
   refine vp ?_
   refine vc_nil ?_
   refine vc_then ?_
   refine vc_ret ?_
   exact vc_end1 Tryz.results219 rfl _ (ent_pick [] rfl) ⟨_, rfl, rfl⟩
theorem key_spec (b : Nat) : Does Tryz.prog 189 [.float .f64 b] [] (fun v l => ∃ s : ByteArray, s.size = 8 ∧ v = .string s ∧ l = []) := by
 refine spec_of Tryz.func189 rfl Tryz.ntmps189 Tryz.results189 _ (by simp) fun ι F => ?_
 refine vc_seq ?_
 refine vc_region ?_
 refine vp ?_
 refine vc_nil ?_
 refine vc_then ?_
 refine vc_seq ?_
 refine vc_region ?_
 refine vc_alloc [.int .u8 0, .int .u8 0, .int .u8 0, .int .u8 0, .int .u8 0, .int .u8 0, .int .u8 0, .int .u8 0] ze_282 rfl rfl (fun b3 => ?_)
 refine vc_nil ?_
 refine vc_then ?_
 refine vc_seq ?_
 refine vc_region ?_
 have hta : TyArr Tryz.prog 282 8 5 1 := ⟨Tryz.underlying282, by kernel_rfl⟩
 refine vc_turn 0 rfl (Sl eU8A ⟨some ⟨b3, 0, none⟩, 8, 8⟩ (List.replicate 8 0)) (VS.of_ent (Sl.mk1 (E := eU8A) b3 (List.replicate 8 0) 8 [] (Nat.le_refl _) (by simp))) ?_
 refine vp ?_
 refine vc_callv ca_219 (us := []) (vs := []) rfl [_] rfl [] rfl (place_spec _) rfl ?_
 rintro _ _ ⟨z, rfl, rfl⟩
 refine vp ?_
 refine vc_nil ?_
 refine vc_then ?_
 refine vc_seq ?_
 refine vc_seq ?_
 refine vc_region ?_
 refine vp ?_
 refine vc_nil ?_
 refine vc_then ?_
 refine vc_block ?_
 refine vc_loop (α := Nat × List Int) (fun xq_ => match xq_ with | (i, ys) => [(3, .pointer (some ⟨b3, 0, none⟩)), (4, .int .u64 z), (8, .int .i64 (i : Int))]) (fun xq_ => match xq_ with | (i, ys) => [Sl eU8A ⟨some ⟨b3, 0, none⟩, 8, 8⟩ ys]) (fun xq_ => match xq_ with | (i, ys) => 8 - i) (fun xq_ => match xq_ with | (i, ys) => i ≤ 8 ∧ ys.length = 8) (0, List.replicate 8 0) ⟨by omega, rfl⟩ ⟨rfl, rfl, rfl, trivial⟩ (ent_pick [0] rfl) ?_
 rintro ⟨i, ys⟩ ⟨hi, hys⟩
 show VC _ _ _ _ [(3, .pointer (some ⟨b3, 0, none⟩)), (4, .int .u64 z), (8, .int .i64 (i : Int))] ([Sl eU8A ⟨some ⟨b3, 0, none⟩, 8, 8⟩ ys])
 refine vc_seq ?_
 refine vc_region ?_
 refine vp ?_
 refine vc_nil ?_
 refine vc_then ?_
 refine vc_seq ?_
 first | refine vc_condP rfl (fun c9 => ?_) (fun c9 => ?_) | refine vc_condN rfl (fun c9 => ?_) (fun c9 => ?_) | refine vc_cond rfl (fun c9 => ?_) (fun c9 => ?_)
 ·skip
  refine vc_skip ?_
  refine vc_then ?_
  refine vc_seq ?_
  refine vc_block ?_
  refine vc_seq ?_
  refine vc_region ?_
  refine vp ?_
  refine vp ?_
  refine vc_nil ?_
  refine vc_then ?_
  refine vc_region ?_
  iterate 3 refine vp ?_
  refine vc_y (y_arith ((7 - i : Nat) : Int) rfl (by rw [wrap64 (by omega) (by omega)]; omega)) rfl ?_
  refine vc_y (y_arith ((8 * (7 - i) : Nat) : Int) rfl (by rw [wrap64 (by omega) (by omega)]; omega)) rfl ?_
  refine vc_y (y_shr _ rfl rfl (by omega) rfl) rfl ?_
  refine vc_y (y_conv _ Tryz.underlying34 Tryz.underlying5 rfl rfl) rfl ?_
  refine vc_y (y_elemArr hta (h := ⟨some ⟨b3, 0, none⟩, 8, 8⟩) i rfl (by omega) rfl rfl rfl) rfl ?_
  refine vc_storeE 0 rfl [_] _ rfl rfl rfl sz_5 rfl (List.getElem?_eq_getElem (by omega)) (Nat.le_of_ble_eq_true rfl) rfl ?_
  refine vc_nil ?_
  refine vc_inNormal ?_
  refine vc_then ?_
  refine vc_region ?_
  first | refine vc_y (y_arith _ rfl (wrapNadd (by omega))) rfl ?_ | refine vc_y (y_arith _ rfl (wrap64 (by omega) (by omega))) rfl ?_ | refine vp ?_
  refine vp ?_
  refine vc_nil ?_
  refine vc_then ?_
  exact vc_again (x := (i, ys)) (i + 1, _) ⟨by omega, by simp [hys]⟩ (by show 8 - (i + 1) < 8 - i; omega) ⟨rfl, rfl, rfl, trivial⟩ (ent_pick [0] rfl)
 ·skip
  refine vc_exit ?_
  refine vc_thenExit ?_
  refine vc_thenExit ?_
  refine vc_inExit ?_
  refine vc_then ?_
  refine vc_seq ?_
  refine vc_region ?_
  refine vc_y (y_sliceArr hta rfl) rfl ?_
  refine vc_y (y_bytesStr 0 rfl (E := eU8A) (fun _ => rfl) (h := ⟨some ⟨b3, 0, none⟩, 8, 8⟩) Sl.vis rfl Tryz.underlying107 Tryz.underlying5 Tryz.underlying9 rfl) rfl ?_
  refine vp ?_
  refine vc_nil ?_
  refine vc_then ?_
  refine vc_ret ?_
  exact vc_end1 Tryz.results189 rfl _ (ent_pick [] rfl) ⟨_, by rw [strOfNums_size]; exact hys, rfl, rfl⟩
theorem pack_spec (x : Val) : Does Tryz.prog 154 [.agg #[.bool x.num, .string x.text, .int .u64 x.bits]] [] (fun v l => ∃ (s : ByteArray) (e : Int), (s.size : Int) = vWeight x ∧ v = .tuple #[.string s, .int .i64 e] ∧ l = []) := by
 refine spec_of Tryz.func154 rfl Tryz.ntmps154 Tryz.results154 _ (by simp) fun ι F => ?_
 refine vc_seq ?_
 refine vc_region ?_
 refine vc_box [_, _, _] rfl rfl rfl (fun b1 => ?_)
 refine vp ?_
 refine vp ?_
 refine vc_nil ?_
 refine vc_then ?_
 refine vc_seq ?_
 refine vc_block ?_
 refine vc_seq ?_
 refine vc_region ?_
 refine vc_y (y_loadA 0 rfl (cs := [_, _, _]) ag_45 rfl (Pts.visA rfl)) rfl ?_
 refine vc_callv ca_87 (us := []) (vs := []) rfl [_] rfl [] rfl (vright_spec x) rfl ?_
 rintro _ _ ⟨rfl, rfl⟩
 refine vp ?_
 refine vp ?_
 refine vc_nil ?_
 refine vc_then ?_
 first | refine vc_condP rfl (fun c4 => ?_) (fun c4 => ?_) | refine vc_condN rfl (fun c4 => ?_) (fun c4 => ?_) | refine vc_cond rfl (fun c4 => ?_) (fun c4 => ?_)
 ·skip
  have hv : valRight x = false := by simpa using c4
  refine vc_seq ?_
  refine vc_region ?_
  refine vp ?_
  refine vp ?_
  refine vc_nil ?_
  refine vc_then ?_
  refine vc_ret ?_
  refine vc_inRet ?_
  refine vc_thenRet ?_
  exact vc_end2 Tryz.results154 rfl rfl _ (ent_pick [] rfl) ⟨_, _, by simp [vWeight, hv]; rfl, rfl, rfl⟩
 ·skip
  have hv : valRight x = true := by simpa using c4
  refine vc_seq ?_
  refine vc_region ?_
  refine vc_y (y_fieldP fl_45_0 0 rfl rfl) rfl ?_
  refine vc_y (y_load1 0 rfl one_4 rfl (Pts.vis rfl)) rfl ?_
  refine vp ?_
  refine vc_nil ?_
  refine vc_then ?_
  first | refine vc_condP rfl (fun c8 => ?_) (fun c8 => ?_) | refine vc_condN rfl (fun c8 => ?_) (fun c8 => ?_) | refine vc_cond rfl (fun c8 => ?_) (fun c8 => ?_)
  ·skip
   have hn : x.num = true := c8
   refine vc_seq ?_
   refine vc_region ?_
   refine vc_y (y_fieldP fl_45_2 2 rfl rfl) rfl ?_
   refine vc_y (y_load1 0 rfl one_34 rfl (Pts.vis rfl)) rfl ?_
   refine vc_callv ca_135 (us := []) (vs := []) rfl [_] rfl [] rfl (from_spec _) rfl ?_
   rintro _ _ ⟨rfl, rfl⟩
   refine vc_callv ca_189 (us := []) (vs := []) rfl [_] rfl [] rfl (key_spec _) rfl ?_
   rintro _ _ ⟨s, hs, rfl, rfl⟩
   refine vc_y (y_cat rfl rfl (by rw [hs]; decide)) rfl ?_
   refine vp ?_
   refine vp ?_
   refine vc_nil ?_
   refine vc_then ?_
   refine vc_ret ?_
   refine vc_inRet ?_
   refine vc_thenRet ?_
   exact vc_end2 Tryz.results154 rfl rfl _ (ent_pick [] rfl) ⟨_, _, by rw [size_cat, hs]; simp [vWeight, hv, hn]; rfl, rfl, rfl⟩
  ·skip
   have hn : x.num = false := c8
   have hsz : (x.text.size : Int) ≤ 64 := by
    have := hv
    simp only [valRight, hn, Bool.false_eq_true, if_false, Bool.and_eq_true, decide_eq_true_eq] at this
    exact this.2
   refine vc_skip ?_
   refine vc_inNormal ?_
   refine vc_then ?_
   refine vc_seq ?_
   refine vc_region ?_
   refine vc_y (y_fieldP fl_45_1 1 rfl rfl) rfl ?_
   refine vc_y (y_load1 0 rfl one_9 rfl (Pts.vis rfl)) rfl ?_
   refine vc_y (y_cat rfl rfl (by rw [show (⟨#[0]⟩ : ByteArray).size = 1 from rfl]; omega)) rfl ?_
   refine vp ?_
   refine vp ?_
   refine vc_nil ?_
   refine vc_then ?_
   refine vc_ret ?_
   exact vc_end2 Tryz.results154 rfl rfl _ (ent_pick [] rfl) ⟨_, _, by rw [size_cat]; simp only [vWeight, hv, hn, if_true, Bool.false_eq_true, if_false, Int.natCast_add]; rfl, rfl, rfl⟩
theorem vweight_spec (x : Val) : Does Tryz.prog 113 [.agg #[.bool x.num, .string x.text, .int .u64 x.bits]] [] (fun v l => v = .int .i64 (vWeight x) ∧ l = []) := by
 refine spec_of Tryz.func113 rfl Tryz.ntmps113 Tryz.results113 _ (by simp) fun ι F => ?_
 refine vc_seq ?_
 refine vc_region ?_
 refine vc_box [_, _, _] rfl rfl rfl (fun b1 => ?_)
 refine vp ?_
 refine vc_nil ?_
 refine vc_then ?_
 refine vc_seq ?_
 refine vc_region ?_
 refine vc_y (y_loadA 0 rfl (cs := [_, _, _]) ag_45 rfl (Pts.visA rfl)) rfl ?_
 refine vc_callv ca_154 (us := []) (vs := []) rfl [_] rfl [] rfl (pack_spec x) rfl ?_
 rintro _ _ ⟨s, e, hs, rfl, rfl⟩
 iterate 5 refine vp ?_
 refine vc_nil ?_
 refine vc_then ?_
 refine vc_seq ?_
 refine vc_region ?_
 refine vp ?_
 refine vc_y (y_strLen Tryz.underlying9 rfl) rfl ?_
 refine vp ?_
 refine vc_nil ?_
 refine vc_then ?_
 refine vc_ret ?_
 exact vc_end1 Tryz.results113 rfl _ (ent_pick [] rfl) ⟨by rw [← hs], rfl⟩
theorem cweight_spec {A : HP} {h : SH} {xs : List Ver} (hv : Vis A (Rd eVer h xs)) (hb : xs.length ≤ 1000000) : Does Tryz.prog 156 [h.v] [A] (fun v l => v = .int .i64 (cWeight xs) ∧ l = [A]) := by
 refine spec_of Tryz.func156 rfl Tryz.ntmps156 Tryz.results156 _ (by simp) fun ι F => ?_
 refine vc_seq ?_
 refine vc_region ?_
 refine vp ?_
 refine vc_nil ?_
 refine vc_then ?_
 refine vc_seq ?_
 refine vc_region ?_
 refine vp ?_
 refine vc_callv ca_85 (us := []) (vs := []) rfl [_] rfl [0] rfl (Last_spec hv hb) rfl ?_
 rintro _ _ ⟨rfl, rfl⟩
 iterate 3 refine vp ?_
 refine vc_alloc [.int .i64 0, .bool false, .bool false, .string ⟨#[]⟩, .int .u64 0] ze_135 rfl rfl (fun b3 => ?_)
 refine vc_storeP 0 rfl [_, _, _, _, _] [_, _, _, _, _] rfl rfl rfl sz_135 rfl rfl rfl ?_
 refine vp ?_
 refine vc_nil ?_
 refine vc_then ?_
 refine vc_seq ?_
 refine vc_seq ?_
 refine vc_region ?_
 iterate 3 refine vp ?_
 first | refine vc_splitP 12 rfl (fun c12 => ?_) (fun c12 => ?_) | refine vc_splitN 12 rfl (fun c12 => ?_) (fun c12 => ?_) | refine vc_split 12 rfl (fun c12 => ?_) (fun c12 => ?_)
 ·skip
  have hv : verLast xs = none := by simpa using c12
  refine vc_guardF 12 rfl rfl rfl rfl ?_
  refine vc_guardF 12 rfl rfl rfl rfl ?_
  refine vp ?_
  refine vc_nil ?_
  refine vc_then ?_
  refine vc_condT rfl ?_
  refine vc_seq ?_
  refine vc_region ?_
  refine vp ?_
  refine vc_nil ?_
  refine vc_then ?_
  refine vc_ret ?_
  refine vc_thenRet ?_
  exact vc_end1 Tryz.results156 rfl _ (ent_pick [1] rfl) ⟨by simp [cWeight, hv], rfl⟩
 ·skip
  obtain ⟨x, hx⟩ : ∃ x, verLast xs = some x := by
   cases h0 : verLast xs with
   | none => simp [h0] at c12
   | some x => exact ⟨x, rfl⟩
  refine vc_guardT 12 rfl rfl ?_
  refine vc_y (y_fieldP fl_135_1 1 rfl rfl) rfl ?_
  refine vc_guardT 12 rfl rfl ?_
  refine vc_y (y_load1 0 rfl one_4 rfl (Pts.vis rfl)) rfl ?_
  refine vp ?_
  refine vc_nil ?_
  refine vc_then ?_
  first | refine vc_condP rfl (fun c15 => ?_) (fun c15 => ?_) | refine vc_condN rfl (fun c15 => ?_) (fun c15 => ?_) | refine vc_cond rfl (fun c15 => ?_) (fun c15 => ?_)
  ·skip
   refine vc_seq ?_
   refine vc_region ?_
   refine vp ?_
   refine vc_nil ?_
   refine vc_then ?_
   refine vc_ret ?_
   refine vc_thenRet ?_
   exact vc_end1 Tryz.results156 rfl _ (ent_pick [1] rfl) ⟨by rw [hx] at c15; simp at c15; simp [cWeight, hx, c15], rfl⟩
  ·skip
   refine vc_skip ?_
   refine vc_then ?_
   refine vc_seq ?_
   refine vc_region ?_
   refine vc_y (y_fieldP fl_135_2 2 rfl rfl) rfl ?_
   refine vc_y (y_loadA 0 rfl (cs := [_, _, _]) ag_45 rfl (Pts.visA rfl)) rfl ?_
   refine vc_callv ca_113 (us := []) (vs := []) rfl [_] rfl [] rfl (vweight_spec ((verLast xs).getD ver0).val) rfl ?_
   rintro _ _ ⟨rfl, rfl⟩
   refine vp ?_
   refine vc_nil ?_
   refine vc_then ?_
   refine vc_ret ?_
   exact vc_end1 Tryz.results156 rfl _ (ent_pick [1] rfl) ⟨by simp [hx] at c15; simp [cWeight, hx, c15], rfl⟩
theorem lives_spec {A : HP} {h : SH} {xs : List Ver} (hv : Vis A (Rd eVer h xs)) (hb : xs.length ≤ 1000000) {key : ByteArray} (hk : key.size ≤ 1000000) : Does Tryz.prog 120 [.string key, h.v] [A] (fun v l => v = .int .i64 (lives key xs) ∧ l = [A]) := by
 refine spec_of Tryz.func120 rfl Tryz.ntmps120 Tryz.results120 _ (by simp) fun ι F => ?_
 have hcw := cWeight_le xs
 refine vc_seq ?_
 refine vc_region ?_
 refine vp ?_
 refine vc_nil ?_
 refine vc_then ?_
 refine vc_seq ?_
 refine vc_region ?_
 refine vp ?_
 refine vc_callv ca_156 (us := []) (vs := []) rfl [_] rfl [0] rfl (cweight_spec hv hb) rfl ?_
 rintro _ _ ⟨rfl, rfl⟩
 refine vp ?_
 refine vc_nil ?_
 refine vc_then ?_
 refine vc_seq ?_
 refine vc_seq ?_
 refine vc_region ?_
 refine vp ?_
 refine vp ?_
 refine vc_nil ?_
 refine vc_then ?_
 first | refine vc_condP rfl (fun c9 => ?_) (fun c9 => ?_) | refine vc_condN rfl (fun c9 => ?_) (fun c9 => ?_) | refine vc_cond rfl (fun c9 => ?_) (fun c9 => ?_)
 ·skip
  refine vc_seq ?_
  refine vc_region ?_
  refine vp ?_
  refine vc_nil ?_
  refine vc_then ?_
  refine vc_ret ?_
  refine vc_thenRet ?_
  exact vc_end1 Tryz.results120 rfl _ (ent_pick [0] rfl) ⟨by simp [lives, c9], rfl⟩
 ·skip
  refine vc_skip ?_
  refine vc_then ?_
  refine vc_seq ?_
  refine vc_region ?_
  refine vp ?_
  refine vc_y (y_strLen Tryz.underlying9 rfl) rfl ?_
  refine vp ?_
  first | refine vc_y (y_arith _ rfl (wrap64 (by omega) (by omega))) rfl ?_ | refine vp ?_
  refine vp ?_
  refine vc_nil ?_
  refine vc_then ?_
  refine vc_ret ?_
  exact vc_end1 Tryz.results120 rfl _ (ent_pick [0] rfl) ⟨by simp [lives, c9], rfl⟩
end Go.Proofs.YtcpbibdbahfgaaaGreat
namespace Go.Eng
theorem Does.ex1 {P : Program} {f : FuncId} {args : List Value} {α : Type} {g : α → HP} {r : List HP} {Post : Value → List HP → Prop} (h : ∀ x, Does P f args (g x :: r) Post) : Does P f args (ex g :: r) Post := fun ι F w hw => by
 obtain ⟨g1, g2, r0, x0, s, x1, x2, hj, ⟨y1, y2, hj', ⟨a, ha⟩, hr⟩, hf⟩ := hw
 exact h a ι F w ⟨g1, g2, r0, x0, s, x1, x2, hj, ⟨y1, y2, hj', ha, hr⟩, hf⟩
theorem Does.lift1 {P : Program} {f : FuncId} {args : List Value} {p : Prop} {A : HP} {r : List HP} {Post : Value → List HP → Prop} (h : p → Does P f args (A :: r) Post) : Does P f args (sep (lift p) A :: r) Post := fun ι F w hw => by
 have hp : p := by
  obtain ⟨g1, g2, r0, x0, s, x1, x2, hj, ⟨y1, y2, hj', ⟨z1, z2, hj2, hp, _⟩, hr⟩, hf⟩ := hw
  exact hp
 exact h hp ι F w (hw.ent (Ent.sep (Ent.sep Ent.right Ent.rfl) Ent.rfl))
theorem Does.pre {P : Program} {f : FuncId} {args : List Value} {l l' : List HP} {Post : Value → List HP → Prop} (e : Ent (seps l) (seps l')) (h : Does P f args l' Post) : Does P f args l Post := fun ι F w hw => h ι F w (hw.ent (Ent.sep e Ent.rfl))
theorem Does.fin {P : Program} {f : FuncId} {args : List Value} {l : List HP} {Post Post' : Value → List HP → Prop} (h : Does P f args l Post) (i : ∀ v l, Post v l → ∃ l', Ent (seps l) (seps l') ∧ Post' v l') : Does P f args l Post' := fun ι F w hw =>
 (h ι F w hw).mono fun _ _ ⟨v, l', hp, e, hw'⟩ => by
  obtain ⟨l2, e2, hp2⟩ := i v l' hp
  exact ⟨v, l2, hp2, e, hw'.ent (Ent.sep e2 Ent.rfl)⟩
theorem Does.re {P : Program} {f : FuncId} {args : List Value} {l post : List HP} {v v' : Value} (h : Does P f args l (fun x l' => x = v ∧ l' = post)) (e : v = v') : Does P f args l (fun x l' => x = v' ∧ l' = post) := h.imp fun _ _ ⟨a, b⟩ => ⟨a.trans e, b⟩
theorem ent_ex {α : Type} {f : α → HP} (a : α) {r : List HP} : Ent (seps (f a :: r)) (seps (ex f :: r)) := Ent.sep (fun _ _ h => ⟨a, h⟩) Ent.rfl
theorem ent_lift {p : Prop} (hp : p) {A : HP} {r : List HP} : Ent (seps (A :: r)) (seps (sep (lift p) A :: r)) :=
 Ent.sep (fun rr x h => ⟨fun _ => none, x, fun _ => .inr ⟨rfl, rfl⟩, hp, h⟩) Ent.rfl
end Go.Eng
namespace Go.Eng
def bigs (f : Nat → HP) : Nat → HP
 | 0 => emp
 | n + 1 => sep (f n) (bigs f n)
def upd {α : Type} (f : Nat → α) (i : Nat) (a : α) : Nat → α := fun j => if j = i then a else f j
theorem upd_same {α : Type} (f : Nat → α) (i : Nat) (a : α) : upd f i a i = a := by simp [upd]
theorem upd_ne {α : Type} (f : Nat → α) {i j : Nat} (a : α) (h : j ≠ i) : upd f i a j = f j := by simp [upd, h]
theorem bigs_congr {f g : Nat → HP} {n : Nat} (h : ∀ j, j < n → f j = g j) : bigs f n = bigs g n := by
 induction n with
 | zero => rfl
 | succ n ih => simp only [bigs]; rw [h n (by omega), ih (fun j hj => h j (by omega))]
theorem bigs_out {f : Nat → HP} {n i : Nat} (h : i < n) : Ent (bigs f n) (sep (f i) (bigs (upd f i emp) n)) := by
 induction n with
 | zero => omega
 | succ n ih =>
  by_cases hi : i = n
  ·subst hi
   simp only [bigs, upd_same]
   rw [bigs_congr (g := f) (fun j hj => upd_ne f emp (by omega))]
   exact Ent.sep Ent.rfl Ent.empL
  ·simp only [bigs]
   rw [upd_ne f emp (show n ≠ i from fun e => hi e.symm)]
   exact (Ent.sep Ent.rfl (ih (by omega))).trans Ent.swap
theorem bigs_in {f : Nat → HP} {n i : Nat} (A : HP) (h : i < n) (hf : f i = emp) : Ent (sep A (bigs f n)) (bigs (upd f i A) n) := by
 induction n with
 | zero => omega
 | succ n ih =>
  by_cases hi : i = n
  ·subst hi
   simp only [bigs, upd_same]
   rw [bigs_congr (f := upd f i A) (g := f) (fun j hj => upd_ne f A (by omega))]
   exact Ent.sep Ent.rfl Ent.right
  ·simp only [bigs]
   rw [upd_ne f A (show n ≠ i from fun e => hi e.symm)]
   exact Ent.swap.trans (Ent.sep Ent.rfl (ih (by omega)))
theorem bigs_see {f : Nat → HP} {n i : Nat} (h : i < n) : Ent (bigs f n) (f i) := (bigs_out h).trans Ent.left
end Go.Eng
namespace Go.Proofs.YtcpbibdbahfgaaaGreat
open Go.Eng
def eNat : Enc Nat := ⟨3, 1, fun n => [.int .i64 (n : Int)], fun _ => rfl, fun _ c h => by simp at h; subst h; rfl, by decide⟩
structure Nd3 where
 k : SH
 n : SH
 c : SH
def eNode : Enc Nd3 := ⟨231, 3, fun x => [x.k.v, x.n.v, x.c.v], fun _ => rfl, fun _ c h => by simp at h; rcases h with rfl | rfl | rfl <;> rfl, by decide⟩
structure Nd where
 keys : List ByteArray
 nums : List Int
 kids : List Nat
structure TS where
 l : List Nd
 free : List Nat
 root : Option Nat
 n : Int
def rootV : Option Nat → Int
 | none => -1
 | some r => (r : Int)
def NodeC (h : Nd3) (d : Nd) : HP := sep (Sl eStr h.k d.keys) (sep (Sl eInt h.n d.nums) (Sl eNat h.c d.kids))
def nodeAt (hs : List Nd3) (ds : List Nd) (i : Nat) : HP := match hs[i]? with
 | some h => match ds[i]? with
  | some d => NodeC h d
  | none => emp
 | none => emp
def Nodes (hs : List Nd3) (ds : List Nd) : HP := bigs (nodeAt hs ds) ds.length
def TO (b : Nat) (S : TS) (hl hf : SH) (hs : List Nd3) : List HP := [Pts b [hl.v, hf.v, .int .i64 (rootV S.root), .int .i64 S.n] 204, Sl eNode hl hs, Sl eNat hf S.free, Nodes hs S.l]
theorem nodeAt_some {hs : List Nd3} {ds : List Nd} {i : Nat} {h : Nd3} {d : Nd} (e : hs[i]? = some h) (e' : ds[i]? = some d) : nodeAt hs ds i = NodeC h d := by simp [nodeAt, e, e']
section
variable {hs : List Nd3} {ds : List Nd} {i : Nat} {h : Nd3} {d : Nd}
theorem Nodes.see (e : hs[i]? = some h) (e' : ds[i]? = some d) : Ent (Nodes hs ds) (NodeC h d) := by
 have hl := (List.getElem?_eq_some_iff.1 e').1
 have := bigs_see (f := nodeAt hs ds) hl
 rwa [nodeAt_some e e'] at this
theorem Nodes.visK (e : hs[i]? = some h) (e' : ds[i]? = some d) : Vis (Nodes hs ds) (Rd eStr h.k d.keys) := Sl.vis.ent ((Nodes.see e e').trans Ent.left)
theorem Nodes.visN (e : hs[i]? = some h) (e' : ds[i]? = some d) : Vis (Nodes hs ds) (Rd eInt h.n d.nums) := Sl.vis.ent ((Nodes.see e e').trans (Ent.right.trans Ent.left))
theorem Nodes.visC (e : hs[i]? = some h) (e' : ds[i]? = some d) : Vis (Nodes hs ds) (Rd eNat h.c d.kids) := Sl.vis.ent ((Nodes.see e e').trans (Ent.right.trans Ent.right))
end
def leafN (d : Nd) : Bool := d.kids.isEmpty
def sizeN (d : Nd) : Nat := if leafN d then d.keys.length else d.kids.length
def wayN (d : Nd) (key : ByteArray) : Nat := if fnd d.keys key then lb d.keys key + 1 else lb d.keys key
def dsc : Nat → List Nd → Nat → ByteArray → Option Nat
 | 0, _, _, _ => none
 | f + 1, l, i, key => match l[i]? with
  | none => none
  | some d => if d.kids = [] then some i else match d.kids[wayN d key]? with
   | none => none
   | some c => dsc f l c key
def edg : Nat → List Nd → Nat → Option (ByteArray × Int)
 | 0, _, _ => none
 | f + 1, l, i => match l[i]? with
  | none => none
  | some d => if d.kids = [] then (match d.keys[0]?, d.nums[0]? with | some k, some n => some (k, n) | _, _ => none) else match d.kids[0]? with
   | none => none
   | some c => edg f l c
def fst1 (above : Bool) (d : Nd) (key : ByteArray) : Nat := if fnd d.keys key && above then lb d.keys key + 1 else lb d.keys key
def fstN : Nat → List Nd → Nat → ByteArray → Bool → Option (Option (ByteArray × Int))
 | 0, _, _, _, _ => none
 | f + 1, l, i, key, above => match l[i]? with
  | none => none
  | some d =>
   if d.kids = [] then
    if d.keys.length ≤ fst1 above d key then some none
    else match d.keys[fst1 above d key]?, d.nums[fst1 above d key]? with
     | some k, some n => some (some (k, n))
     | _, _ => none
   else match d.kids[wayN d key]? with
    | none => none
    | some c => match fstN f l c key above with
     | none => none
     | some (some r) => some (some r)
     | some none => match d.kids[wayN d key + 1]? with
      | none => some none
      | some c' => (edg f l c').map some
theorem dsc_some {f : Nat} {l : List Nd} {j jl : Nat} {key : ByteArray} (h : dsc f l j key = some jl) :
  ∃ f' d, f = f' + 1 ∧ l[j]? = some d ∧ ((d.kids = [] ∧ j = jl) ∨ (d.kids ≠ [] ∧ ∃ c, d.kids[wayN d key]? = some c ∧ dsc f' l c key = some jl)) := by
 cases f with
 | zero => simp [dsc] at h
 | succ f =>
  simp only [dsc] at h
  cases hd : l[j]? with
  | none => simp [hd] at h
  | some d =>
   simp only [hd] at h
   refine ⟨f, d, rfl, rfl, ?_⟩
   by_cases hk : d.kids = []
   ·rw [if_pos hk] at h
    exact .inl ⟨hk, Option.some.inj h⟩
   ·rw [if_neg hk] at h
    right
    refine ⟨hk, ?_⟩
    cases hc : d.kids[wayN d key]? with
    | none => simp [hc] at h
    | some c => simp only [hc] at h; exact ⟨c, rfl, h⟩
theorem dsc_lt {f : Nat} {l : List Nd} {j jl : Nat} {key : ByteArray} (h : dsc f l j key = some jl) : j < l.length := by
 obtain ⟨_, _, _, h, _⟩ := dsc_some h
 exact (List.getElem?_eq_some_iff.1 h).1
theorem getSome {α β : Type} {xs : List α} {ys : List β} (hl : xs.length = ys.length) {i : Nat} {y : β} (h : ys[i]? = some y) : ∃ x, xs[i]? = some x :=
 ⟨_, List.getElem?_eq_getElem (by rw [hl]; exact (List.getElem?_eq_some_iff.1 h).1)⟩
theorem getLt {α : Type} {xs : List α} {i : Nat} {x : α} (h : xs[i]? = some x) : i < xs.length := (List.getElem?_eq_some_iff.1 h).1
def resK : Option (ByteArray × Int) → ByteArray
 | none => ⟨#[]⟩
 | some (k, _) => k
def resN : Option (ByteArray × Int) → Int
 | none => 0
 | some (_, n) => n
def resB : Option (ByteArray × Int) → Bool
 | none => false
 | some _ => true
def resV (r : Option (ByteArray × Int)) : Value := .tuple #[.string (resK r), .int .i64 (resN r), .bool (resB r)]
def getN (d : Nd) (key : ByteArray) : Int × Bool := if fnd d.keys key then (d.nums.getD (lb d.keys key) 0, true) else (0, false)
theorem edg_some {f : Nat} {l : List Nd} {j : Nat} {q : ByteArray × Int} (h : edg f l j = some q) :
  ∃ f' d, f = f' + 1 ∧ l[j]? = some d ∧ ((d.kids = [] ∧ d.keys[0]? = some q.1 ∧ d.nums[0]? = some q.2) ∨ (d.kids ≠ [] ∧ ∃ c, d.kids[0]? = some c ∧ edg f' l c = some q)) := by
 cases f with
 | zero => simp [edg] at h
 | succ f =>
  simp only [edg] at h
  cases hd : l[j]? with
  | none => simp [hd] at h
  | some d =>
   simp only [hd] at h
   refine ⟨f, d, rfl, rfl, ?_⟩
   by_cases hk : d.kids = []
   ·rw [if_pos hk] at h
    left
    refine ⟨hk, ?_⟩
    cases h1 : d.keys[0]? <;> cases h2 : d.nums[0]? <;> simp [h1, h2] at h
    subst h; exact ⟨rfl, rfl⟩
   ·rw [if_neg hk] at h
    right
    refine ⟨hk, ?_⟩
    cases hc : d.kids[0]? with
    | none => simp [hc] at h
    | some c => simp only [hc] at h; exact ⟨c, rfl, h⟩
theorem edg_lt {f : Nat} {l : List Nd} {j : Nat} {q : ByteArray × Int} (h : edg f l j = some q) : j < l.length := by
 obtain ⟨_, _, _, h, _⟩ := edg_some h
 exact (List.getElem?_eq_some_iff.1 h).1
theorem fstN_some {f : Nat} {l : List Nd} {i : Nat} {key : ByteArray} {above : Bool} {r : Option (ByteArray × Int)} (h : fstN (f + 1) l i key above = some r) :
  ∃ d, l[i]? = some d ∧ ((d.kids = [] ∧ ((d.keys.length ≤ fst1 above d key ∧ r = none) ∨ (∃ k n, d.keys[fst1 above d key]? = some k ∧ d.nums[fst1 above d key]? = some n ∧ r = some (k, n)))) ∨
   (d.kids ≠ [] ∧ ∃ c r', d.kids[wayN d key]? = some c ∧ fstN f l c key above = some r' ∧ ((∃ q, r' = some q ∧ r = some q) ∨ (r' = none ∧ ((d.kids[wayN d key + 1]? = none ∧ r = none) ∨ ∃ c' q, d.kids[wayN d key + 1]? = some c' ∧ edg f l c' = some q ∧ r = some q))))) := by
 simp only [fstN] at h
 cases hd : l[i]? with
 | none => simp [hd] at h
 | some d =>
  simp only [hd] at h
  refine ⟨d, rfl, ?_⟩
  by_cases hk : d.kids = []
  ·rw [if_pos hk] at h
   left
   refine ⟨hk, ?_⟩
   by_cases hl : d.keys.length ≤ fst1 above d key
   ·rw [if_pos hl] at h; exact .inl ⟨hl, (Option.some.inj h).symm⟩
   ·rw [if_neg hl] at h
    right
    cases h1 : d.keys[fst1 above d key]? with
    | none => simp [h1] at h
    | some k =>
     cases h2 : d.nums[fst1 above d key]? with
     | none => simp [h1, h2] at h
     | some n => simp [h1, h2] at h; exact ⟨k, n, rfl, rfl, h.symm⟩
  ·rw [if_neg hk] at h
   right
   refine ⟨hk, ?_⟩
   cases hc : d.kids[wayN d key]? with
   | none => simp [hc] at h
   | some c =>
    simp only [hc] at h
    cases hr : fstN f l c key above with
    | none => simp [hr] at h
    | some r' =>
     simp only [hr] at h
     refine ⟨c, r', rfl, hr, ?_⟩
     cases r' with
     | some q => exact .inl ⟨q, rfl, (Option.some.inj h).symm⟩
     | none =>
      right
      refine ⟨rfl, ?_⟩
      cases hc' : d.kids[wayN d key + 1]? with
      | none => simp [hc'] at h; exact .inl ⟨rfl, h.symm⟩
      | some c' =>
       simp only [hc'] at h
       cases he : edg f l c' with
       | none => simp [he] at h
       | some q => simp [he] at h; exact .inr ⟨c', q, rfl, he, h.symm⟩
theorem fstN_lt {f : Nat} {l : List Nd} {i : Nat} {key : ByteArray} {above : Bool} {r : Option (ByteArray × Int)} (h : fstN f l i key above = some r) : i < l.length := by
 cases f with
 | zero => simp [fstN] at h
 | succ f => obtain ⟨d, h, _⟩ := fstN_some h; exact (List.getElem?_eq_some_iff.1 h).1
def RiseAll (l : List Nd) : Prop := ∀ (i : Nat) (d : Nd), l[i]? = some d → Rise d.keys ∧ d.keys.length ≤ 1000000 ∧ d.kids.length ≤ 1000000
end Go.Proofs.YtcpbibdbahfgaaaGreat
namespace Go.Proofs.YtcpbibdbahfgaaaGreat
open Go.Eng
namespace FSl1
theorem sz_9 : (Tryz.prog.info? 9).map (·.size) = some 1 := by kernel_rfl
theorem ze_9 : (Tryz.prog.info? 9).map (·.zero) = some (some (.string ⟨#[]⟩)) := by kernel_rfl
theorem bs_136_0   (w : World) : (Instr.buildSlice 136 0 #[]).run Tryz.prog w = .ok (.slice (some ⟨w.heap.size, 0, none⟩) 0 0) { w with heap := w.heap.push (.cells #[] 9 (0, 0)) } :=
 Go.Eng.run_buildSlice Tryz.underlying136 sz_9 ze_9 (by decide) (by rw [show Array.range (0 * 1) = #[] from by decide]; simp [Instr.fill, cells_agg]) w
theorem el_136_eStr : TyEl Tryz.prog 136 eStr 16 := ⟨Tryz.underlying136, .string ⟨#[]⟩, by kernel_rfl, rfl⟩
theorem sz_3 : (Tryz.prog.info? 3).map (·.size) = some 1 := by kernel_rfl
theorem ze_3 : (Tryz.prog.info? 3).map (·.zero) = some (some (.int .i64 0)) := by kernel_rfl
theorem bs_72_0   (w : World) : (Instr.buildSlice 72 0 #[]).run Tryz.prog w = .ok (.slice (some ⟨w.heap.size, 0, none⟩) 0 0) { w with heap := w.heap.push (.cells #[] 3 (0, 0)) } :=
 Go.Eng.run_buildSlice Tryz.underlying72 sz_3 ze_3 (by decide) (by rw [show Array.range (0 * 1) = #[] from by decide]; simp [Instr.fill, cells_agg]) w
theorem el_72_eInt : TyEl Tryz.prog 72 eInt 8 := ⟨Tryz.underlying72, .int .i64 0, by kernel_rfl, rfl⟩
theorem el_72_eNat : TyEl Tryz.prog 72 eNat 8 := ⟨Tryz.underlying72, .int .i64 0, by kernel_rfl, rfl⟩
theorem sz_34 : (Tryz.prog.info? 34).map (·.size) = some 1 := by kernel_rfl
theorem ze_34 : (Tryz.prog.info? 34).map (·.zero) = some (some (.int .u64 0)) := by kernel_rfl
theorem bs_22_0   (w : World) : (Instr.buildSlice 22 0 #[]).run Tryz.prog w = .ok (.slice (some ⟨w.heap.size, 0, none⟩) 0 0) { w with heap := w.heap.push (.cells #[] 34 (0, 0)) } :=
 Go.Eng.run_buildSlice Tryz.underlying22 sz_34 ze_34 (by decide) (by rw [show Array.range (0 * 1) = #[] from by decide]; simp [Instr.fill, cells_agg]) w
theorem el_22_eU64 : TyEl Tryz.prog 22 eU64 8 := ⟨Tryz.underlying22, .int .u64 0, by kernel_rfl, rfl⟩
end FSl1
open FSl1
theorem cloneS_spec {A : HP} {h : SH} {xs : List ByteArray} (hv : Vis A (Rd eStr h xs)) (hb : xs.length ≤ 1000000) :
  Does Tryz.prog 195 [h.v] [A] (fun v l => ∃ h', v = h'.v ∧ l = [Sl eStr h' xs, A]) := by
 refine spec_of Tryz.func195 rfl Tryz.ntmps195 Tryz.results195 _ (by simp) fun ι F => ?_
 refine vc_see 0 rfl (hv.imp fun w r => (⟨r.len, r.adr⟩ : h.len = xs.length ∧ (h.a = some ⟨h.blk, h.off, none⟩ ∨ (xs = [] ∧ h.cap = 0)))) (fun hlen => ?_)
 refine vc_seq ?_
 refine vc_region ?_
 refine vp ?_
 refine vc_nil ?_
 refine vc_then ?_
 refine vc_seq ?_
 refine vc_seq ?_
 refine vc_region ?_
 refine vp ?_
 refine vc_y (y_sliceNil Tryz.underlying136 rfl rfl) rfl ?_
 refine vc_nil ?_
 refine vc_then ?_
 first | refine vc_condP rfl (fun c4 => ?_) (fun c4 => ?_) | refine vc_condN rfl (fun c4 => ?_) (fun c4 => ?_) | refine vc_cond rfl (fun c4 => ?_) (fun c4 => ?_)
 ·skip
  obtain rfl : xs = [] := by
   rcases hlen.2 with h0 | h0
   ·rw [h0] at c4; cases c4
   ·exact h0.1
  refine vc_ent (l' := Sl eStr nilS [] :: _) sl_new ?_
  refine vc_seq ?_
  refine vc_region ?_
  refine vp ?_
  refine vc_nil ?_
  refine vc_then ?_
  refine vc_ret ?_
  refine vc_thenRet ?_
  exact vc_end1 Tryz.results195 rfl _ (Ent.rfl) ⟨nilS, rfl, rfl⟩
 ·skip
  refine vc_skip ?_
  refine vc_then ?_
  refine vc_seq ?_
  refine vc_region ?_
  refine vc_buildSlice (E := eStr) [] [] rfl rfl (bs_136_0  ) rfl (fun h5 => ?_)
  refine vp ?_
  refine vc_append 0 rfl 1 rfl (hv) el_136_eStr Tryz.underlying136 rfl rfl (by simp; omega) (by simp; omega) rfl (fun h7 => ?_)
  refine vp ?_
  refine vc_nil ?_
  refine vc_then ?_
  refine vc_ret ?_
  exact vc_end1 Tryz.results195 rfl _ (ent_pick [0, 0] rfl) ⟨h7, rfl, rfl⟩
theorem cloneI_spec {A : HP} {h : SH} {xs : List Int} (hv : Vis A (Rd eInt h xs)) (hb : xs.length ≤ 1000000) :
  Does Tryz.prog 196 [h.v] [A] (fun v l => ∃ h', v = h'.v ∧ l = [Sl eInt h' xs, A]) := by
 refine spec_of Tryz.func196 rfl Tryz.ntmps196 Tryz.results196 _ (by simp) fun ι F => ?_
 refine vc_see 0 rfl (hv.imp fun w r => (⟨r.len, r.adr⟩ : h.len = xs.length ∧ (h.a = some ⟨h.blk, h.off, none⟩ ∨ (xs = [] ∧ h.cap = 0)))) (fun hlen => ?_)
 refine vc_seq ?_
 refine vc_region ?_
 refine vp ?_
 refine vc_nil ?_
 refine vc_then ?_
 refine vc_seq ?_
 refine vc_seq ?_
 refine vc_region ?_
 refine vp ?_
 refine vc_y (y_sliceNil Tryz.underlying72 rfl rfl) rfl ?_
 refine vc_nil ?_
 refine vc_then ?_
 first | refine vc_condP rfl (fun c4 => ?_) (fun c4 => ?_) | refine vc_condN rfl (fun c4 => ?_) (fun c4 => ?_) | refine vc_cond rfl (fun c4 => ?_) (fun c4 => ?_)
 ·skip
  obtain rfl : xs = [] := by
   rcases hlen.2 with h0 | h0
   ·rw [h0] at c4; cases c4
   ·exact h0.1
  refine vc_ent (l' := Sl eInt nilS [] :: _) sl_new ?_
  refine vc_seq ?_
  refine vc_region ?_
  refine vp ?_
  refine vc_nil ?_
  refine vc_then ?_
  refine vc_ret ?_
  refine vc_thenRet ?_
  exact vc_end1 Tryz.results196 rfl _ (Ent.rfl) ⟨nilS, rfl, rfl⟩
 ·skip
  refine vc_skip ?_
  refine vc_then ?_
  refine vc_seq ?_
  refine vc_region ?_
  refine vc_buildSlice (E := eInt) [] [] rfl rfl (bs_72_0  ) rfl (fun h5 => ?_)
  refine vp ?_
  refine vc_append 0 rfl 1 rfl (hv) el_72_eInt Tryz.underlying72 rfl rfl (by simp; omega) (by simp; omega) rfl (fun h7 => ?_)
  refine vp ?_
  refine vc_nil ?_
  refine vc_then ?_
  refine vc_ret ?_
  exact vc_end1 Tryz.results196 rfl _ (ent_pick [0, 0] rfl) ⟨h7, rfl, rfl⟩
theorem cloneN_spec {A : HP} {h : SH} {xs : List Nat} (hv : Vis A (Rd eNat h xs)) (hb : xs.length ≤ 1000000) :
  Does Tryz.prog 196 [h.v] [A] (fun v l => ∃ h', v = h'.v ∧ l = [Sl eNat h' xs, A]) := by
 refine spec_of Tryz.func196 rfl Tryz.ntmps196 Tryz.results196 _ (by simp) fun ι F => ?_
 refine vc_see 0 rfl (hv.imp fun w r => (⟨r.len, r.adr⟩ : h.len = xs.length ∧ (h.a = some ⟨h.blk, h.off, none⟩ ∨ (xs = [] ∧ h.cap = 0)))) (fun hlen => ?_)
 refine vc_seq ?_
 refine vc_region ?_
 refine vp ?_
 refine vc_nil ?_
 refine vc_then ?_
 refine vc_seq ?_
 refine vc_seq ?_
 refine vc_region ?_
 refine vp ?_
 refine vc_y (y_sliceNil Tryz.underlying72 rfl rfl) rfl ?_
 refine vc_nil ?_
 refine vc_then ?_
 first | refine vc_condP rfl (fun c4 => ?_) (fun c4 => ?_) | refine vc_condN rfl (fun c4 => ?_) (fun c4 => ?_) | refine vc_cond rfl (fun c4 => ?_) (fun c4 => ?_)
 ·skip
  obtain rfl : xs = [] := by
   rcases hlen.2 with h0 | h0
   ·rw [h0] at c4; cases c4
   ·exact h0.1
  refine vc_ent (l' := Sl eNat nilS [] :: _) sl_new ?_
  refine vc_seq ?_
  refine vc_region ?_
  refine vp ?_
  refine vc_nil ?_
  refine vc_then ?_
  refine vc_ret ?_
  refine vc_thenRet ?_
  exact vc_end1 Tryz.results196 rfl _ (Ent.rfl) ⟨nilS, rfl, rfl⟩
 ·skip
  refine vc_skip ?_
  refine vc_then ?_
  refine vc_seq ?_
  refine vc_region ?_
  refine vc_buildSlice (E := eNat) [] [] rfl rfl (bs_72_0  ) rfl (fun h5 => ?_)
  refine vp ?_
  refine vc_append 0 rfl 1 rfl (hv) el_72_eNat Tryz.underlying72 rfl rfl (by simp; omega) (by simp; omega) rfl (fun h7 => ?_)
  refine vp ?_
  refine vc_nil ?_
  refine vc_then ?_
  refine vc_ret ?_
  exact vc_end1 Tryz.results196 rfl _ (ent_pick [0, 0] rfl) ⟨h7, rfl, rfl⟩
theorem cloneU_spec {A : HP} {h : SH} {xs : List Int} (hv : Vis A (Rd eU64 h xs)) (hb : xs.length ≤ 1000000) :
  Does Tryz.prog 101 [h.v] [A] (fun v l => ∃ h', v = h'.v ∧ l = [Sl eU64 h' xs, A]) := by
 refine spec_of Tryz.func101 rfl Tryz.ntmps101 Tryz.results101 _ (by simp) fun ι F => ?_
 refine vc_see 0 rfl (hv.imp fun w r => (⟨r.len, r.adr⟩ : h.len = xs.length ∧ (h.a = some ⟨h.blk, h.off, none⟩ ∨ (xs = [] ∧ h.cap = 0)))) (fun hlen => ?_)
 refine vc_seq ?_
 refine vc_region ?_
 refine vp ?_
 refine vc_nil ?_
 refine vc_then ?_
 refine vc_seq ?_
 refine vc_seq ?_
 refine vc_region ?_
 refine vp ?_
 refine vc_y (y_sliceNil Tryz.underlying22 rfl rfl) rfl ?_
 refine vc_nil ?_
 refine vc_then ?_
 first | refine vc_condP rfl (fun c4 => ?_) (fun c4 => ?_) | refine vc_condN rfl (fun c4 => ?_) (fun c4 => ?_) | refine vc_cond rfl (fun c4 => ?_) (fun c4 => ?_)
 ·skip
  obtain rfl : xs = [] := by
   rcases hlen.2 with h0 | h0
   ·rw [h0] at c4; cases c4
   ·exact h0.1
  refine vc_ent (l' := Sl eU64 nilS [] :: _) sl_new ?_
  refine vc_seq ?_
  refine vc_region ?_
  refine vp ?_
  refine vc_nil ?_
  refine vc_then ?_
  refine vc_ret ?_
  refine vc_thenRet ?_
  exact vc_end1 Tryz.results101 rfl _ (Ent.rfl) ⟨nilS, rfl, rfl⟩
 ·skip
  refine vc_skip ?_
  refine vc_then ?_
  refine vc_seq ?_
  refine vc_region ?_
  refine vc_buildSlice (E := eU64) [] [] rfl rfl (bs_22_0  ) rfl (fun h5 => ?_)
  refine vp ?_
  refine vc_append 0 rfl 1 rfl (hv) el_22_eU64 Tryz.underlying22 rfl rfl (by simp; omega) (by simp; omega) rfl (fun h7 => ?_)
  refine vp ?_
  refine vc_nil ?_
  refine vc_then ?_
  refine vc_ret ?_
  exact vc_end1 Tryz.results101 rfl _ (ent_pick [0, 0] rfl) ⟨h7, rfl, rfl⟩
end Go.Proofs.YtcpbibdbahfgaaaGreat
namespace Go.Proofs.YtcpbibdbahfgaaaGreat
open Go.Eng
namespace FSl2
theorem el_136_eStr : TyEl Tryz.prog 136 eStr 16 := ⟨Tryz.underlying136, .string ⟨#[]⟩, by kernel_rfl, rfl⟩
theorem ze_9 : (Tryz.prog.info? 9).map (·.zero) = some (some (.string ⟨#[]⟩)) := by kernel_rfl
theorem sl_136 : TySl Tryz.prog 136 9 1 := ⟨Tryz.underlying136, by kernel_rfl⟩
theorem el_72_eInt : TyEl Tryz.prog 72 eInt 8 := ⟨Tryz.underlying72, .int .i64 0, by kernel_rfl, rfl⟩
theorem ze_3 : (Tryz.prog.info? 3).map (·.zero) = some (some (.int .i64 0)) := by kernel_rfl
theorem sl_72 : TySl Tryz.prog 72 3 1 := ⟨Tryz.underlying72, by kernel_rfl⟩
theorem el_72_eNat : TyEl Tryz.prog 72 eNat 8 := ⟨Tryz.underlying72, .int .i64 0, by kernel_rfl, rfl⟩
theorem el_22_eU64 : TyEl Tryz.prog 22 eU64 8 := ⟨Tryz.underlying22, .int .u64 0, by kernel_rfl, rfl⟩
theorem ze_34 : (Tryz.prog.info? 34).map (·.zero) = some (some (.int .u64 0)) := by kernel_rfl
theorem sl_22 : TySl Tryz.prog 22 34 1 := ⟨Tryz.underlying22, by kernel_rfl⟩
end FSl2
open FSl2
theorem delS_spec {h : SH} {xs : List ByteArray} {i j : Nat} (hi : i ≤ j) (hj : j ≤ xs.length) (hb : xs.length ≤ 1000000) :
  Does Tryz.prog 190 [h.v, .int .i64 (i : Int), .int .i64 (j : Int)] [Sl eStr h xs] (fun v l => ∃ h', v = h'.v ∧ l = [Sl eStr h' (xs.take i ++ xs.drop j)]) := by
 refine spec_of Tryz.func190 rfl Tryz.ntmps190 Tryz.results190 _ (by simp) fun ι F => ?_
 refine vc_see 0 rfl (Sl.vis.imp fun w r => (⟨r.len, r.cap⟩ : h.len = xs.length ∧ xs.length ≤ h.cap)) (fun hlc => ?_)
 obtain ⟨hlen, hcap⟩ := hlc
 refine vc_seq ?_
 refine vc_region ?_
 refine vp ?_
 refine vc_nil ?_
 refine vc_then ?_
 refine vc_seq ?_
 refine vc_region ?_
 iterate 4 refine vp ?_
 refine vc_y (y_len Tryz.underlying136 rfl hlen) rfl ?_
 refine vc_y (y_slice sl_136 rfl i j xs.length ⟨_, _, rfl, rfl⟩ ⟨_, _, rfl, rfl⟩ ⟨_, _, rfl, rfl⟩ (by simp) (by omega) (by omega) (by omega)) rfl ?_
 refine vc_nil ?_
 refine vc_then ?_
 refine vc_seq ?_
 refine vc_seq ?_
 refine vc_region ?_
 iterate 3 refine vp ?_
 refine vc_nil ?_
 refine vc_then ?_
 first | refine vc_condP rfl (fun c16 => ?_) (fun c16 => ?_) | refine vc_condN rfl (fun c16 => ?_) (fun c16 => ?_) | refine vc_cond rfl (fun c16 => ?_) (fun c16 => ?_)
 ·skip
  obtain rfl : i = j := by omega
  refine vc_seq ?_
  refine vc_region ?_
  refine vp ?_
  refine vp ?_
  refine vc_nil ?_
  refine vc_then ?_
  refine vc_ret ?_
  refine vc_thenRet ?_
  exact vc_end1 Tryz.results190 rfl _ (ent_pick [0] rfl) ⟨h, rfl, by simp⟩
 ·skip
  have hij : i < j := by omega
  refine vc_open 0 rfl (by omega) (fun b pre post hh hc2 hpost => ?_)
  obtain ⟨hha, hhl, hhc⟩ := h
  simp only [SH.mk.injEq] at hh
  obtain ⟨rfl, rfl, _⟩ := hh
  simp only [] at hlen hcap hc2 hpost
  have hbd := Nat.mul_le_mul_right (Enc.sz eStr) (show i + (xs.length - j) ≤ xs.length by omega)
  have hbd2 := Nat.mul_le_mul_right (Enc.sz eStr) (show (i + (xs.length - j)) + (j - i) ≤ xs.length by omega)
  rw [Nat.add_mul] at hbd hbd2
  refine vc_skip ?_
  refine vc_then ?_
  refine vc_seq ?_
  refine vc_region ?_
  refine vp ?_
  refine vc_y (y_len Tryz.underlying136 rfl rfl) rfl ?_
  refine vp ?_
  refine vc_nil ?_
  refine vc_then ?_
  refine vc_seq ?_
  refine vc_draw (by kernel_rfl) _ none [] rfl ?_
  refine tpp 0 ?_
  refine tpp 1 ?_
  refine va_take 2 rfl (by kernel_rfl) (by kernel_rfl) (by kernel_rfl) (by kernel_rfl) (fun _ _ _ h => h) (fun _ _ => rfl) (by exact y_sliceR sl_136 rfl 0 i hhc pre.length i hhc rfl ⟨_, _, rfl, rfl⟩ rfl (by simp) (by omega) (by omega) (by omega) (by omega) (by simp) (by omega) rfl) rfl ?_
  refine tpp 3 ?_
  refine tpp 4 ?_
  refine va_take 5 rfl (by kernel_rfl) (by kernel_rfl) (by kernel_rfl) (by kernel_rfl) (fun _ _ _ h => h) (fun _ _ => rfl) (by exact y_slice sl_136 (h := ⟨some ⟨b, pre.length, none⟩, xs.length, hhc⟩) rfl j xs.length hhc ⟨_, _, rfl, rfl⟩ rfl rfl (by simp) (by omega) (by omega) (by simp)) rfl ?_
  refine va_ready [6] (by kernel_rfl) rfl ?_
  refine vo_cons rfl (fun hC0 => ?_) ?_
  ·skip
   refine vc_appendRaw 0 rfl (E := eStr) (xs.drop j) 0 rfl ((Pts.rd hc2).imp fun w r => by have := r.cut hj (Nat.le_refl _) hc2 (Nat.le_refl _); rw [List.take_length] at this; exact this) el_136_eStr Tryz.underlying136 rfl rfl (by simp; omega) (by simp only [List.length_append, flat_length, List.length_drop]; omega) rfl ?_
   refine vc_cells 0 (pre ++ flat eStr (over xs i (xs.drop j)) ++ post) rfl (by rw [splice_flat eStr (by omega), List.length_drop, show i + (xs.length - j) - xs.length = 0 by omega]; simp) ?_
   refine vc_nil ?_
   refine vc_then ?_
   refine va_kept hC0 [] rfl ?_
   refine tpp 7 ?_
   refine va_done (by kernel_rfl) ?_
   refine vc_then ?_
   refine vc_seq ?_
   refine vc_region ?_
   refine vp ?_
   refine vp ?_
   refine vc_y (y_len Tryz.underlying136 (h := ⟨some ⟨b, pre.length, none⟩, i + (xs.drop j).length, hhc⟩) rfl (m := i + (xs.length - j)) (by simp)) rfl ?_
   refine vp ?_
   refine vc_y (y_sliceR sl_136 rfl (i + (xs.length - j)) xs.length hhc (pre.length + (i + (xs.length - j)) * Enc.sz eStr) (j - i) _ ⟨_, _, rfl, rfl⟩ ⟨_, _, rfl, rfl⟩ rfl (by simp) (by omega) (by omega) (by omega) (by omega) rfl (by omega) rfl) rfl ?_
   refine vc_clearE 0 rfl eStr (⟨#[]⟩ : ByteArray) Tryz.underlying136 ze_9 rfl rfl (by omega) (by simp only [List.length_append, flat_length, over_len (show i ≤ xs.length by omega), List.length_drop]; have := Nat.le_max_left xs.length (i + (xs.length - j)); have := Nat.mul_le_mul_right (Enc.sz eStr) this; omega) rfl ?_
   refine vc_cells 0 (pre ++ flat eStr (xs.take i ++ xs.drop j) ++ (flat eStr (List.replicate (j - i) (⟨#[]⟩ : ByteArray)) ++ post)) rfl (by
    rw [splice_flat eStr (by rw [over_len (by omega)]; omega), over_del (⟨#[]⟩ : ByteArray) hi hj rfl, over_len (by omega), List.length_replicate, List.length_drop, show i + (xs.length - j) + (j - i) - max xs.length (i + (xs.length - j)) = 0 by omega]
    simp [flat_append]) ?_
   refine vc_turn 0 rfl (Sl eStr ⟨some ⟨b, pre.length, none⟩, i + (xs.drop j).length, hhc⟩ (xs.take i ++ xs.drop j)) (VS.of_ent (sl_close rfl (by simp; omega) (by simp only [List.length_append, flat_length, List.length_replicate, List.length_drop, List.length_take]; have : (hhc - (min i xs.length + (xs.length - j))) * Enc.sz eStr ≤ ((j - i) + (hhc - xs.length)) * Enc.sz eStr := Nat.mul_le_mul_right _ (by omega); rw [Nat.add_mul] at this; omega) (by simp; omega))) ?_
   refine vc_nil ?_
   refine vc_then ?_
   refine vc_seq ?_
   refine vc_region ?_
   refine vp ?_
   refine vp ?_
   refine vc_nil ?_
   refine vc_then ?_
   refine vc_ret ?_
   exact vc_end1 Tryz.results190 rfl _ (ent_pick [0] rfl) ⟨_, rfl, rfl⟩
  exact vo_nil
theorem delI_spec {h : SH} {xs : List Int} {i j : Nat} (hi : i ≤ j) (hj : j ≤ xs.length) (hb : xs.length ≤ 1000000) :
  Does Tryz.prog 191 [h.v, .int .i64 (i : Int), .int .i64 (j : Int)] [Sl eInt h xs] (fun v l => ∃ h', v = h'.v ∧ l = [Sl eInt h' (xs.take i ++ xs.drop j)]) := by
 refine spec_of Tryz.func191 rfl Tryz.ntmps191 Tryz.results191 _ (by simp) fun ι F => ?_
 refine vc_see 0 rfl (Sl.vis.imp fun w r => (⟨r.len, r.cap⟩ : h.len = xs.length ∧ xs.length ≤ h.cap)) (fun hlc => ?_)
 obtain ⟨hlen, hcap⟩ := hlc
 refine vc_seq ?_
 refine vc_region ?_
 refine vp ?_
 refine vc_nil ?_
 refine vc_then ?_
 refine vc_seq ?_
 refine vc_region ?_
 iterate 4 refine vp ?_
 refine vc_y (y_len Tryz.underlying72 rfl hlen) rfl ?_
 refine vc_y (y_slice sl_72 rfl i j xs.length ⟨_, _, rfl, rfl⟩ ⟨_, _, rfl, rfl⟩ ⟨_, _, rfl, rfl⟩ (by simp) (by omega) (by omega) (by omega)) rfl ?_
 refine vc_nil ?_
 refine vc_then ?_
 refine vc_seq ?_
 refine vc_seq ?_
 refine vc_region ?_
 iterate 3 refine vp ?_
 refine vc_nil ?_
 refine vc_then ?_
 first | refine vc_condP rfl (fun c16 => ?_) (fun c16 => ?_) | refine vc_condN rfl (fun c16 => ?_) (fun c16 => ?_) | refine vc_cond rfl (fun c16 => ?_) (fun c16 => ?_)
 ·skip
  obtain rfl : i = j := by omega
  refine vc_seq ?_
  refine vc_region ?_
  refine vp ?_
  refine vp ?_
  refine vc_nil ?_
  refine vc_then ?_
  refine vc_ret ?_
  refine vc_thenRet ?_
  exact vc_end1 Tryz.results191 rfl _ (ent_pick [0] rfl) ⟨h, rfl, by simp⟩
 ·skip
  have hij : i < j := by omega
  refine vc_open 0 rfl (by omega) (fun b pre post hh hc2 hpost => ?_)
  obtain ⟨hha, hhl, hhc⟩ := h
  simp only [SH.mk.injEq] at hh
  obtain ⟨rfl, rfl, _⟩ := hh
  simp only [] at hlen hcap hc2 hpost
  have hbd := Nat.mul_le_mul_right (Enc.sz eInt) (show i + (xs.length - j) ≤ xs.length by omega)
  have hbd2 := Nat.mul_le_mul_right (Enc.sz eInt) (show (i + (xs.length - j)) + (j - i) ≤ xs.length by omega)
  rw [Nat.add_mul] at hbd hbd2
  refine vc_skip ?_
  refine vc_then ?_
  refine vc_seq ?_
  refine vc_region ?_
  refine vp ?_
  refine vc_y (y_len Tryz.underlying72 rfl rfl) rfl ?_
  refine vp ?_
  refine vc_nil ?_
  refine vc_then ?_
  refine vc_seq ?_
  refine vc_draw (by kernel_rfl) _ none [] rfl ?_
  refine tpp 0 ?_
  refine tpp 1 ?_
  refine va_take 2 rfl (by kernel_rfl) (by kernel_rfl) (by kernel_rfl) (by kernel_rfl) (fun _ _ _ h => h) (fun _ _ => rfl) (by exact y_sliceR sl_72 rfl 0 i hhc pre.length i hhc rfl ⟨_, _, rfl, rfl⟩ rfl (by simp) (by omega) (by omega) (by omega) (by omega) (by simp) (by omega) rfl) rfl ?_
  refine tpp 3 ?_
  refine tpp 4 ?_
  refine va_take 5 rfl (by kernel_rfl) (by kernel_rfl) (by kernel_rfl) (by kernel_rfl) (fun _ _ _ h => h) (fun _ _ => rfl) (by exact y_slice sl_72 (h := ⟨some ⟨b, pre.length, none⟩, xs.length, hhc⟩) rfl j xs.length hhc ⟨_, _, rfl, rfl⟩ rfl rfl (by simp) (by omega) (by omega) (by simp)) rfl ?_
  refine va_ready [6] (by kernel_rfl) rfl ?_
  refine vo_cons rfl (fun hC0 => ?_) ?_
  ·skip
   refine vc_appendRaw 0 rfl (E := eInt) (xs.drop j) 0 rfl ((Pts.rd hc2).imp fun w r => by have := r.cut hj (Nat.le_refl _) hc2 (Nat.le_refl _); rw [List.take_length] at this; exact this) el_72_eInt Tryz.underlying72 rfl rfl (by simp; omega) (by simp only [List.length_append, flat_length, List.length_drop]; omega) rfl ?_
   refine vc_cells 0 (pre ++ flat eInt (over xs i (xs.drop j)) ++ post) rfl (by rw [splice_flat eInt (by omega), List.length_drop, show i + (xs.length - j) - xs.length = 0 by omega]; simp) ?_
   refine vc_nil ?_
   refine vc_then ?_
   refine va_kept hC0 [] rfl ?_
   refine tpp 7 ?_
   refine va_done (by kernel_rfl) ?_
   refine vc_then ?_
   refine vc_seq ?_
   refine vc_region ?_
   refine vp ?_
   refine vp ?_
   refine vc_y (y_len Tryz.underlying72 (h := ⟨some ⟨b, pre.length, none⟩, i + (xs.drop j).length, hhc⟩) rfl (m := i + (xs.length - j)) (by simp)) rfl ?_
   refine vp ?_
   refine vc_y (y_sliceR sl_72 rfl (i + (xs.length - j)) xs.length hhc (pre.length + (i + (xs.length - j)) * Enc.sz eInt) (j - i) _ ⟨_, _, rfl, rfl⟩ ⟨_, _, rfl, rfl⟩ rfl (by simp) (by omega) (by omega) (by omega) (by omega) rfl (by omega) rfl) rfl ?_
   refine vc_clearE 0 rfl eInt (0 : Int) Tryz.underlying72 ze_3 rfl rfl (by omega) (by simp only [List.length_append, flat_length, over_len (show i ≤ xs.length by omega), List.length_drop]; have := Nat.le_max_left xs.length (i + (xs.length - j)); have := Nat.mul_le_mul_right (Enc.sz eInt) this; omega) rfl ?_
   refine vc_cells 0 (pre ++ flat eInt (xs.take i ++ xs.drop j) ++ (flat eInt (List.replicate (j - i) (0 : Int)) ++ post)) rfl (by
    rw [splice_flat eInt (by rw [over_len (by omega)]; omega), over_del (0 : Int) hi hj rfl, over_len (by omega), List.length_replicate, List.length_drop, show i + (xs.length - j) + (j - i) - max xs.length (i + (xs.length - j)) = 0 by omega]
    simp [flat_append]) ?_
   refine vc_turn 0 rfl (Sl eInt ⟨some ⟨b, pre.length, none⟩, i + (xs.drop j).length, hhc⟩ (xs.take i ++ xs.drop j)) (VS.of_ent (sl_close rfl (by simp; omega) (by simp only [List.length_append, flat_length, List.length_replicate, List.length_drop, List.length_take]; have : (hhc - (min i xs.length + (xs.length - j))) * Enc.sz eInt ≤ ((j - i) + (hhc - xs.length)) * Enc.sz eInt := Nat.mul_le_mul_right _ (by omega); rw [Nat.add_mul] at this; omega) (by simp; omega))) ?_
   refine vc_nil ?_
   refine vc_then ?_
   refine vc_seq ?_
   refine vc_region ?_
   refine vp ?_
   refine vp ?_
   refine vc_nil ?_
   refine vc_then ?_
   refine vc_ret ?_
   exact vc_end1 Tryz.results191 rfl _ (ent_pick [0] rfl) ⟨_, rfl, rfl⟩
  exact vo_nil
theorem delN_spec {h : SH} {xs : List Nat} {i j : Nat} (hi : i ≤ j) (hj : j ≤ xs.length) (hb : xs.length ≤ 1000000) :
  Does Tryz.prog 191 [h.v, .int .i64 (i : Int), .int .i64 (j : Int)] [Sl eNat h xs] (fun v l => ∃ h', v = h'.v ∧ l = [Sl eNat h' (xs.take i ++ xs.drop j)]) := by
 refine spec_of Tryz.func191 rfl Tryz.ntmps191 Tryz.results191 _ (by simp) fun ι F => ?_
 refine vc_see 0 rfl (Sl.vis.imp fun w r => (⟨r.len, r.cap⟩ : h.len = xs.length ∧ xs.length ≤ h.cap)) (fun hlc => ?_)
 obtain ⟨hlen, hcap⟩ := hlc
 refine vc_seq ?_
 refine vc_region ?_
 refine vp ?_
 refine vc_nil ?_
 refine vc_then ?_
 refine vc_seq ?_
 refine vc_region ?_
 iterate 4 refine vp ?_
 refine vc_y (y_len Tryz.underlying72 rfl hlen) rfl ?_
 refine vc_y (y_slice sl_72 rfl i j xs.length ⟨_, _, rfl, rfl⟩ ⟨_, _, rfl, rfl⟩ ⟨_, _, rfl, rfl⟩ (by simp) (by omega) (by omega) (by omega)) rfl ?_
 refine vc_nil ?_
 refine vc_then ?_
 refine vc_seq ?_
 refine vc_seq ?_
 refine vc_region ?_
 iterate 3 refine vp ?_
 refine vc_nil ?_
 refine vc_then ?_
 first | refine vc_condP rfl (fun c16 => ?_) (fun c16 => ?_) | refine vc_condN rfl (fun c16 => ?_) (fun c16 => ?_) | refine vc_cond rfl (fun c16 => ?_) (fun c16 => ?_)
 ·skip
  obtain rfl : i = j := by omega
  refine vc_seq ?_
  refine vc_region ?_
  refine vp ?_
  refine vp ?_
  refine vc_nil ?_
  refine vc_then ?_
  refine vc_ret ?_
  refine vc_thenRet ?_
  exact vc_end1 Tryz.results191 rfl _ (ent_pick [0] rfl) ⟨h, rfl, by simp⟩
 ·skip
  have hij : i < j := by omega
  refine vc_open 0 rfl (by omega) (fun b pre post hh hc2 hpost => ?_)
  obtain ⟨hha, hhl, hhc⟩ := h
  simp only [SH.mk.injEq] at hh
  obtain ⟨rfl, rfl, _⟩ := hh
  simp only [] at hlen hcap hc2 hpost
  have hbd := Nat.mul_le_mul_right (Enc.sz eNat) (show i + (xs.length - j) ≤ xs.length by omega)
  have hbd2 := Nat.mul_le_mul_right (Enc.sz eNat) (show (i + (xs.length - j)) + (j - i) ≤ xs.length by omega)
  rw [Nat.add_mul] at hbd hbd2
  refine vc_skip ?_
  refine vc_then ?_
  refine vc_seq ?_
  refine vc_region ?_
  refine vp ?_
  refine vc_y (y_len Tryz.underlying72 rfl rfl) rfl ?_
  refine vp ?_
  refine vc_nil ?_
  refine vc_then ?_
  refine vc_seq ?_
  refine vc_draw (by kernel_rfl) _ none [] rfl ?_
  refine tpp 0 ?_
  refine tpp 1 ?_
  refine va_take 2 rfl (by kernel_rfl) (by kernel_rfl) (by kernel_rfl) (by kernel_rfl) (fun _ _ _ h => h) (fun _ _ => rfl) (by exact y_sliceR sl_72 rfl 0 i hhc pre.length i hhc rfl ⟨_, _, rfl, rfl⟩ rfl (by simp) (by omega) (by omega) (by omega) (by omega) (by simp) (by omega) rfl) rfl ?_
  refine tpp 3 ?_
  refine tpp 4 ?_
  refine va_take 5 rfl (by kernel_rfl) (by kernel_rfl) (by kernel_rfl) (by kernel_rfl) (fun _ _ _ h => h) (fun _ _ => rfl) (by exact y_slice sl_72 (h := ⟨some ⟨b, pre.length, none⟩, xs.length, hhc⟩) rfl j xs.length hhc ⟨_, _, rfl, rfl⟩ rfl rfl (by simp) (by omega) (by omega) (by simp)) rfl ?_
  refine va_ready [6] (by kernel_rfl) rfl ?_
  refine vo_cons rfl (fun hC0 => ?_) ?_
  ·skip
   refine vc_appendRaw 0 rfl (E := eNat) (xs.drop j) 0 rfl ((Pts.rd hc2).imp fun w r => by have := r.cut hj (Nat.le_refl _) hc2 (Nat.le_refl _); rw [List.take_length] at this; exact this) el_72_eNat Tryz.underlying72 rfl rfl (by simp; omega) (by simp only [List.length_append, flat_length, List.length_drop]; omega) rfl ?_
   refine vc_cells 0 (pre ++ flat eNat (over xs i (xs.drop j)) ++ post) rfl (by rw [splice_flat eNat (by omega), List.length_drop, show i + (xs.length - j) - xs.length = 0 by omega]; simp) ?_
   refine vc_nil ?_
   refine vc_then ?_
   refine va_kept hC0 [] rfl ?_
   refine tpp 7 ?_
   refine va_done (by kernel_rfl) ?_
   refine vc_then ?_
   refine vc_seq ?_
   refine vc_region ?_
   refine vp ?_
   refine vp ?_
   refine vc_y (y_len Tryz.underlying72 (h := ⟨some ⟨b, pre.length, none⟩, i + (xs.drop j).length, hhc⟩) rfl (m := i + (xs.length - j)) (by simp)) rfl ?_
   refine vp ?_
   refine vc_y (y_sliceR sl_72 rfl (i + (xs.length - j)) xs.length hhc (pre.length + (i + (xs.length - j)) * Enc.sz eNat) (j - i) _ ⟨_, _, rfl, rfl⟩ ⟨_, _, rfl, rfl⟩ rfl (by simp) (by omega) (by omega) (by omega) (by omega) rfl (by omega) rfl) rfl ?_
   refine vc_clearE 0 rfl eNat (0 : Nat) Tryz.underlying72 ze_3 rfl rfl (by omega) (by simp only [List.length_append, flat_length, over_len (show i ≤ xs.length by omega), List.length_drop]; have := Nat.le_max_left xs.length (i + (xs.length - j)); have := Nat.mul_le_mul_right (Enc.sz eNat) this; omega) rfl ?_
   refine vc_cells 0 (pre ++ flat eNat (xs.take i ++ xs.drop j) ++ (flat eNat (List.replicate (j - i) (0 : Nat)) ++ post)) rfl (by
    rw [splice_flat eNat (by rw [over_len (by omega)]; omega), over_del (0 : Nat) hi hj rfl, over_len (by omega), List.length_replicate, List.length_drop, show i + (xs.length - j) + (j - i) - max xs.length (i + (xs.length - j)) = 0 by omega]
    simp [flat_append]) ?_
   refine vc_turn 0 rfl (Sl eNat ⟨some ⟨b, pre.length, none⟩, i + (xs.drop j).length, hhc⟩ (xs.take i ++ xs.drop j)) (VS.of_ent (sl_close rfl (by simp; omega) (by simp only [List.length_append, flat_length, List.length_replicate, List.length_drop, List.length_take]; have : (hhc - (min i xs.length + (xs.length - j))) * Enc.sz eNat ≤ ((j - i) + (hhc - xs.length)) * Enc.sz eNat := Nat.mul_le_mul_right _ (by omega); rw [Nat.add_mul] at this; omega) (by simp; omega))) ?_
   refine vc_nil ?_
   refine vc_then ?_
   refine vc_seq ?_
   refine vc_region ?_
   refine vp ?_
   refine vp ?_
   refine vc_nil ?_
   refine vc_then ?_
   refine vc_ret ?_
   exact vc_end1 Tryz.results191 rfl _ (ent_pick [0] rfl) ⟨_, rfl, rfl⟩
  exact vo_nil
theorem delU_spec {h : SH} {xs : List Int} {i j : Nat} (hi : i ≤ j) (hj : j ≤ xs.length) (hb : xs.length ≤ 1000000) :
  Does Tryz.prog 122 [h.v, .int .i64 (i : Int), .int .i64 (j : Int)] [Sl eU64 h xs] (fun v l => ∃ h', v = h'.v ∧ l = [Sl eU64 h' (xs.take i ++ xs.drop j)]) := by
 refine spec_of Tryz.func122 rfl Tryz.ntmps122 Tryz.results122 _ (by simp) fun ι F => ?_
 refine vc_see 0 rfl (Sl.vis.imp fun w r => (⟨r.len, r.cap⟩ : h.len = xs.length ∧ xs.length ≤ h.cap)) (fun hlc => ?_)
 obtain ⟨hlen, hcap⟩ := hlc
 refine vc_seq ?_
 refine vc_region ?_
 refine vp ?_
 refine vc_nil ?_
 refine vc_then ?_
 refine vc_seq ?_
 refine vc_region ?_
 iterate 4 refine vp ?_
 refine vc_y (y_len Tryz.underlying22 rfl hlen) rfl ?_
 refine vc_y (y_slice sl_22 rfl i j xs.length ⟨_, _, rfl, rfl⟩ ⟨_, _, rfl, rfl⟩ ⟨_, _, rfl, rfl⟩ (by simp) (by omega) (by omega) (by omega)) rfl ?_
 refine vc_nil ?_
 refine vc_then ?_
 refine vc_seq ?_
 refine vc_seq ?_
 refine vc_region ?_
 iterate 3 refine vp ?_
 refine vc_nil ?_
 refine vc_then ?_
 first | refine vc_condP rfl (fun c16 => ?_) (fun c16 => ?_) | refine vc_condN rfl (fun c16 => ?_) (fun c16 => ?_) | refine vc_cond rfl (fun c16 => ?_) (fun c16 => ?_)
 ·skip
  obtain rfl : i = j := by omega
  refine vc_seq ?_
  refine vc_region ?_
  refine vp ?_
  refine vp ?_
  refine vc_nil ?_
  refine vc_then ?_
  refine vc_ret ?_
  refine vc_thenRet ?_
  exact vc_end1 Tryz.results122 rfl _ (ent_pick [0] rfl) ⟨h, rfl, by simp⟩
 ·skip
  have hij : i < j := by omega
  refine vc_open 0 rfl (by omega) (fun b pre post hh hc2 hpost => ?_)
  obtain ⟨hha, hhl, hhc⟩ := h
  simp only [SH.mk.injEq] at hh
  obtain ⟨rfl, rfl, _⟩ := hh
  simp only [] at hlen hcap hc2 hpost
  have hbd := Nat.mul_le_mul_right (Enc.sz eU64) (show i + (xs.length - j) ≤ xs.length by omega)
  have hbd2 := Nat.mul_le_mul_right (Enc.sz eU64) (show (i + (xs.length - j)) + (j - i) ≤ xs.length by omega)
  rw [Nat.add_mul] at hbd hbd2
  refine vc_skip ?_
  refine vc_then ?_
  refine vc_seq ?_
  refine vc_region ?_
  refine vp ?_
  refine vc_y (y_len Tryz.underlying22 rfl rfl) rfl ?_
  refine vp ?_
  refine vc_nil ?_
  refine vc_then ?_
  refine vc_seq ?_
  refine vc_draw (by kernel_rfl) _ none [] rfl ?_
  refine tpp 0 ?_
  refine tpp 1 ?_
  refine va_take 2 rfl (by kernel_rfl) (by kernel_rfl) (by kernel_rfl) (by kernel_rfl) (fun _ _ _ h => h) (fun _ _ => rfl) (by exact y_sliceR sl_22 rfl 0 i hhc pre.length i hhc rfl ⟨_, _, rfl, rfl⟩ rfl (by simp) (by omega) (by omega) (by omega) (by omega) (by simp) (by omega) rfl) rfl ?_
  refine tpp 3 ?_
  refine tpp 4 ?_
  refine va_take 5 rfl (by kernel_rfl) (by kernel_rfl) (by kernel_rfl) (by kernel_rfl) (fun _ _ _ h => h) (fun _ _ => rfl) (by exact y_slice sl_22 (h := ⟨some ⟨b, pre.length, none⟩, xs.length, hhc⟩) rfl j xs.length hhc ⟨_, _, rfl, rfl⟩ rfl rfl (by simp) (by omega) (by omega) (by simp)) rfl ?_
  refine va_ready [6] (by kernel_rfl) rfl ?_
  refine vo_cons rfl (fun hC0 => ?_) ?_
  ·skip
   refine vc_appendRaw 0 rfl (E := eU64) (xs.drop j) 0 rfl ((Pts.rd hc2).imp fun w r => by have := r.cut hj (Nat.le_refl _) hc2 (Nat.le_refl _); rw [List.take_length] at this; exact this) el_22_eU64 Tryz.underlying22 rfl rfl (by simp; omega) (by simp only [List.length_append, flat_length, List.length_drop]; omega) rfl ?_
   refine vc_cells 0 (pre ++ flat eU64 (over xs i (xs.drop j)) ++ post) rfl (by rw [splice_flat eU64 (by omega), List.length_drop, show i + (xs.length - j) - xs.length = 0 by omega]; simp) ?_
   refine vc_nil ?_
   refine vc_then ?_
   refine va_kept hC0 [] rfl ?_
   refine tpp 7 ?_
   refine va_done (by kernel_rfl) ?_
   refine vc_then ?_
   refine vc_seq ?_
   refine vc_region ?_
   refine vp ?_
   refine vp ?_
   refine vc_y (y_len Tryz.underlying22 (h := ⟨some ⟨b, pre.length, none⟩, i + (xs.drop j).length, hhc⟩) rfl (m := i + (xs.length - j)) (by simp)) rfl ?_
   refine vp ?_
   refine vc_y (y_sliceR sl_22 rfl (i + (xs.length - j)) xs.length hhc (pre.length + (i + (xs.length - j)) * Enc.sz eU64) (j - i) _ ⟨_, _, rfl, rfl⟩ ⟨_, _, rfl, rfl⟩ rfl (by simp) (by omega) (by omega) (by omega) (by omega) rfl (by omega) rfl) rfl ?_
   refine vc_clearE 0 rfl eU64 (0 : Int) Tryz.underlying22 ze_34 rfl rfl (by omega) (by simp only [List.length_append, flat_length, over_len (show i ≤ xs.length by omega), List.length_drop]; have := Nat.le_max_left xs.length (i + (xs.length - j)); have := Nat.mul_le_mul_right (Enc.sz eU64) this; omega) rfl ?_
   refine vc_cells 0 (pre ++ flat eU64 (xs.take i ++ xs.drop j) ++ (flat eU64 (List.replicate (j - i) (0 : Int)) ++ post)) rfl (by
    rw [splice_flat eU64 (by rw [over_len (by omega)]; omega), over_del (0 : Int) hi hj rfl, over_len (by omega), List.length_replicate, List.length_drop, show i + (xs.length - j) + (j - i) - max xs.length (i + (xs.length - j)) = 0 by omega]
    simp [flat_append]) ?_
   refine vc_turn 0 rfl (Sl eU64 ⟨some ⟨b, pre.length, none⟩, i + (xs.drop j).length, hhc⟩ (xs.take i ++ xs.drop j)) (VS.of_ent (sl_close rfl (by simp; omega) (by simp only [List.length_append, flat_length, List.length_replicate, List.length_drop, List.length_take]; have : (hhc - (min i xs.length + (xs.length - j))) * Enc.sz eU64 ≤ ((j - i) + (hhc - xs.length)) * Enc.sz eU64 := Nat.mul_le_mul_right _ (by omega); rw [Nat.add_mul] at this; omega) (by simp; omega))) ?_
   refine vc_nil ?_
   refine vc_then ?_
   refine vc_seq ?_
   refine vc_region ?_
   refine vp ?_
   refine vp ?_
   refine vc_nil ?_
   refine vc_then ?_
   refine vc_ret ?_
   exact vc_end1 Tryz.results122 rfl _ (ent_pick [0] rfl) ⟨_, rfl, rfl⟩
  exact vo_nil
end Go.Proofs.YtcpbibdbahfgaaaGreat
