/-
 A cursor that isn't there tells nothing.
-/
import Derived.Test.YtcpbibdbahfgaaaGreatLaw13a
set_option linter.unusedVariables false
set_option linter.unusedSimpArgs false
set_option autoImplicit false
set_option maxHeartbeats 4000000
namespace Go.Proofs.YtcpbibdbahfgaaaGreat
open Go.Eng
namespace FLaw13b
theorem fl_74_2 : Fld Tryz.prog 74 2 2 := ⟨_, _, 0, Tryz.underlying74, rfl, rfl, by kernel_rfl⟩
theorem one_3 : TyOne Tryz.prog 3 := ⟨⟨_, Tryz.underlying3, rfl⟩, by kernel_rfl⟩
theorem fl_74_1 : Fld Tryz.prog 74 1 1 := ⟨_, _, 0, Tryz.underlying74, rfl, rfl, by kernel_rfl⟩
theorem one_9 : TyOne Tryz.prog 9 := ⟨⟨_, Tryz.underlying9, rfl⟩, by kernel_rfl⟩
theorem fl_74_0 : Fld Tryz.prog 74 0 0 := ⟨_, _, 0, Tryz.underlying74, rfl, rfl, by kernel_rfl⟩
theorem ca_40 : Callable Tryz.prog 40 := ⟨_, _, Tryz.func40, rfl, rfl⟩
theorem ag_45 : TyAgg Tryz.prog 45 3 := ⟨⟨_, Tryz.underlying45, rfl⟩, by kernel_rfl⟩
theorem ca_41 : Callable Tryz.prog 41 := ⟨_, _, Tryz.func41, rfl, rfl⟩
theorem ca_42 : Callable Tryz.prog 42 := ⟨_, _, Tryz.func42, rfl, rfl⟩
theorem ca_43 : Callable Tryz.prog 43 := ⟨_, _, Tryz.func43, rfl, rfl⟩
theorem ca_11 : Callable Tryz.prog 11 := ⟨_, _, Tryz.func11, rfl, rfl⟩
theorem sz_82 : (Tryz.prog.info? 82).map (·.size) = some 3 := by kernel_rfl
theorem ze_82 : (Tryz.prog.info? 82).map (·.zero) = some (some (.agg #[.pointer none, .int .i64 0, .int .i64 0])) := by kernel_rfl
theorem bs_80_0   (w : World) : (Instr.buildSlice 80 0 #[]).run Tryz.prog w = .ok (.slice (some ⟨w.heap.size, 0, none⟩) 0 0) { w with heap := w.heap.push (.cells #[] 82 (0, 0)) } :=
 Go.Eng.run_buildSlice Tryz.underlying80 sz_82 ze_82 (by decide) (by rw [show Array.range (0 * 3) = #[] from by decide]; simp [Instr.fill, cells_agg]) w
theorem sl_72 : TySl Tryz.prog 72 3 1 := ⟨Tryz.underlying72, by kernel_rfl⟩
theorem bu_82_0_2 (v0 : Value) (v2 : Value) (h0 : v0.cells = #[v0]) (h2 : v2.cells = #[v2]) (w : World) : (Instr.build 82 #[(0, v0), (2, v2)]).run Tryz.prog w = .ok (.agg #[v0, .int .i64 0, v2]) w := by
 have hz := @ze_82
 exact Go.Eng.run_build (pl := [(0, 1), (1, 1), (2, 1)]) hz Tryz.underlying82 (by kernel_rfl) rfl (by simp [Instr.fill, h0, h2, cells_agg]) w
theorem bs_80_1 (v0_0 v0_1 v0_2 : Value)  (w : World) : (Instr.buildSlice 80 1 #[(0, .agg #[v0_0, v0_1, v0_2])]).run Tryz.prog w = .ok (.slice (some ⟨w.heap.size, 0, none⟩) 1 1) { w with heap := w.heap.push (.cells #[v0_0, v0_1, v0_2] 82 (0, 0)) } :=
 Go.Eng.run_buildSlice Tryz.underlying80 sz_82 ze_82 (by decide) (by rw [show Array.range (1 * 3) = #[0, 1, 2] from by decide]; simp [Instr.fill, cells_agg]) w
theorem el_80_eSrc : TyEl Tryz.prog 80 eSrc 24 := ⟨Tryz.underlying80, .agg #[.pointer none, .int .i64 0, .int .i64 0], by kernel_rfl, rfl⟩
theorem ag_74 : TyAgg Tryz.prog 74 3 := ⟨⟨_, Tryz.underlying74, rfl⟩, by kernel_rfl⟩
theorem ca_44 : Callable Tryz.prog 44 := ⟨_, _, Tryz.func44, rfl, rfl⟩
theorem bu_82_n   (w : World) : (Instr.build 82 #[]).run Tryz.prog w = .ok (.agg #[.pointer none, .int .i64 0, .int .i64 0]) w := by
 have hz := @ze_82
 exact Go.Eng.run_build (pl := [(0, 1), (1, 1), (2, 1)]) hz Tryz.underlying82 (by kernel_rfl) rfl (by simp [Instr.fill, cells_agg]) w
theorem ca_45 : Callable Tryz.prog 45 := ⟨_, _, Tryz.func45, rfl, rfl⟩
theorem ep_76 : Tryz.prog.underlying 76 = some (.pointer (Tryz.prog.pointee 76)) := by kernel_rfl
theorem ca_46 : Callable Tryz.prog 46 := ⟨_, _, Tryz.func46, rfl, rfl⟩
end FLaw13b
open FLaw13b
theorem gt_lt (a b : ByteArray) : (!(sLt a b || sEq a b)) = sLt b a := by
 cases h : sLt b a with
 | true =>
  have h1 := sLt_asymm h
  have h2 : sEq a b = false := sEq_false.2 fun e => sLt_ne h e.symm
  rw [h1, h2]; rfl
 | false =>
  rcases not_sLt h with e | e
  ·subst e; simp [sEq_self]
  ·rw [e]; rfl
theorem rangeRight_eq (frm to : ByteArray) (limit : Int) : rangeRight frm to limit = ((decide (1 ≤ limit) && decide (limit ≤ 64)) && (sEq to ⟨#[]⟩ || sLt frm to)) := by
 unfold rangeRight; rw [gt_lt]
def srcsN (b : Nat) (l : List Int) : List SrcV := l.map fun p => ⟨some b, 0, p⟩
def riseP : Option Int → List Int → Bool
 | _, [] => true
 | last, p :: r => (decide (0 ≤ p) && prevLt last p) && riseP (some p) r
theorem riseP_eq (b : Nat) : ∀ (l : List Int) (last : Option Int), riseFrom last (srcsN b l) = riseP last l
 | [], _ => rfl
 | p :: r, last => by
  show ((decide (0 ≤ p) && prevLt last p) && riseFrom (some p) (srcsN b r)) = _
  rw [riseP_eq b r]; rfl
def lastI (l : List Int) : Nat → Option Int
 | 0 => none
 | i + 1 => l[i]?
theorem lastI_succ {l : List Int} {i : Nat} (h : i < l.length) : lastI l (i + 1) = some l[i] := by simp [lastI, List.getElem?_eq_getElem h]
theorem lastI_pos {l : List Int} {i : Nat} (h : 0 < i) (h' : i ≤ l.length) : lastI l i = some (l[i - 1]'(by omega)) := by
 cases i with
 | zero => omega
 | succ i => simp [lastI, List.getElem?_eq_getElem (show i < l.length by omega)]
def stepP (l : List Int) (i : Nat) (rs : Bool) (h : i < l.length) : Bool := rs && (decide (0 ≤ l[i]) && prevLt (lastI l i) l[i])
theorem stepP_ok {l : List Int} {i : Nat} {rs : Bool} (h : i < l.length) (hr : riseP none l = (rs && riseP (lastI l i) (l.drop i))) : riseP none l = (stepP l i rs h && riseP (lastI l (i + 1)) (l.drop (i + 1))) := by
 rw [hr, List.drop_eq_getElem_cons h, lastI_succ h]
 simp only [riseP, stepP, Bool.and_assoc]
theorem srcsN_succ (b : Nat) {l : List Int} {i : Nat} (h : i < l.length) : srcsN b (l.take (i + 1)) = srcsN b (l.take i) ++ [⟨some b, 0, l[i]⟩] := by
 unfold srcsN
 rw [List.take_succ_eq_append_getElem h, List.map_append]; rfl
theorem srcsN_nil (b : Nat) (l : List Int) : ∀ s ∈ srcsN b l, isNilS s = false := fun s hs => by
 obtain ⟨p, _, rfl⟩ := List.mem_map.1 hs
 rfl
def Q0 : SrcV → Qr := fun s => fun k ab => liveFrom X13.M k ab s.seq
theorem Q0_none (s : SrcV) (k : ByteArray) (ab : Bool) : Q0 s k ab = none := rfl
theorem src0_ok (b : Nat) (l : List Int) : ∀ s ∈ srcsN b l, SrcOk (RoomC b X13) s (Q0 s) := fun s hs => by
 obtain ⟨p, _, rfl⟩ := List.mem_map.1 hs
 exact ⟨b, rfl, fun key => room_after X13_ok key (by show (0 : Int) ≤ _; decide), fun key => room_seek X13_ok key (by show (0 : Int) ≤ _; decide)⟩
theorem seek0_none (C : Cu) (s : SrcV) (k : ByteArray) (ab : Bool) : seekC C s (fun _ _ => none) (fun _ _ => 0) (Q0 s) k ab = none := by
 have h : (findC C s (fun _ _ => none) (Q0 s) k ab).ok = false := by
  unfold findC
  split <;> rfl
 unfold seekC
 rw [seekF, h]; rfl
theorem row0_none (C : Cu) : rowC C (fun _ _ => none) (fun _ _ => 0) Q0 = none := by
 unfold rowC rowsC
 generalize C.srcs = l
 induction l with
 | nil => rfl
 | cons s r ih => rw [List.foldl_cons, seek0_none]; exact ih
theorem step0 {C : Cu} {n : Int} (hn : 1 ≤ n) (hd : C.done = false) : stepC (fun _ _ => none) (fun _ _ => 0) Q0 n.toNat C = ([], endC C) := step_none (by omega) hd (row0_none C)
theorem ref13Right_spec (frm to : ByteArray) (limit : Int) : Does Tryz.prog 46 [.agg #[.string frm, .string to, .int .i64 limit]] [] (fun v l => v = .bool (rangeRight frm to limit) ∧ l = []) := by
 refine spec_of Tryz.func46 rfl Tryz.ntmps46 Tryz.results46 _ (by simp) fun ι F => ?_
 refine vc_seq ?_
 refine vc_region ?_
 refine vc_box [_, _, _] rfl rfl rfl (fun b1 => ?_)
 refine vp ?_
 refine vc_nil ?_
 refine vc_then ?_
 refine vc_seq ?_
 refine vc_region ?_
 refine vc_y (y_fieldP fl_74_2 2 rfl rfl) rfl ?_
 refine vc_y (y_load1 0 rfl one_3 rfl (Pts.vis rfl)) rfl ?_
 refine vp ?_
 refine vp ?_
 first | refine vc_splitP 6 rfl (fun c6 => ?_) (fun c6 => ?_) | refine vc_splitN 6 rfl (fun c6 => ?_) (fun c6 => ?_) | refine vc_split 6 rfl (fun c6 => ?_) (fun c6 => ?_)
 ·skip
  refine vc_guardT 6 rfl rfl ?_
  refine vc_y (y_fieldP fl_74_2 2 rfl rfl) rfl ?_
  refine vc_guardT 6 rfl rfl ?_
  refine vc_y (y_load1 0 rfl one_3 rfl (Pts.vis rfl)) rfl ?_
  refine vc_guardT 6 rfl rfl ?_
  iterate 3 refine vp ?_
  first | refine vc_splitP 11 rfl (fun c11 => ?_) (fun c11 => ?_) | refine vc_splitN 11 rfl (fun c11 => ?_) (fun c11 => ?_) | refine vc_split 11 rfl (fun c11 => ?_) (fun c11 => ?_)
  ·skip
   refine vc_guardT 11 rfl rfl ?_
   refine vc_y (y_fieldP fl_74_1 1 rfl rfl) rfl ?_
   refine vc_guardT 11 rfl rfl ?_
   refine vc_y (y_load1 0 rfl one_9 rfl (Pts.vis rfl)) rfl ?_
   refine vc_guardT 11 rfl rfl ?_
   refine vp ?_
   refine vc_guardT 11 rfl rfl ?_
   refine vp ?_
   first | refine vc_splitP 15 rfl (fun c15 => ?_) (fun c15 => ?_) | refine vc_splitN 15 rfl (fun c15 => ?_) (fun c15 => ?_) | refine vc_split 15 rfl (fun c15 => ?_) (fun c15 => ?_)
   ·skip
    refine vc_guardF 15 rfl rfl rfl rfl ?_
    refine vc_guardF 15 rfl rfl rfl rfl ?_
    refine vc_guardF 15 rfl rfl rfl rfl ?_
    refine vc_guardF 15 rfl rfl rfl rfl ?_
    refine vc_guardF 15 rfl rfl rfl rfl ?_
    refine vc_guardT 11 rfl rfl ?_
    iterate 3 refine vp ?_
    refine vc_nil ?_
    refine vc_then ?_
    refine vc_ret ?_
    exact vc_end1 Tryz.results46 rfl _ (ent_pick [] rfl) ⟨by rw [rangeRight_eq]; simp [*], rfl⟩
   ·skip
    refine vc_guardT 15 rfl rfl ?_
    refine vc_y (y_fieldP fl_74_0 0 rfl rfl) rfl ?_
    refine vc_guardT 15 rfl rfl ?_
    refine vc_y (y_load1 0 rfl one_9 rfl (Pts.vis rfl)) rfl ?_
    refine vc_guardT 15 rfl rfl ?_
    refine vc_y (y_fieldP fl_74_1 1 rfl rfl) rfl ?_
    refine vc_guardT 15 rfl rfl ?_
    refine vc_y (y_load1 0 rfl one_9 rfl (Pts.vis rfl)) rfl ?_
    refine vc_guardT 15 rfl rfl ?_
    refine vp ?_
    refine vc_guardT 11 rfl rfl ?_
    iterate 3 refine vp ?_
    refine vc_nil ?_
    refine vc_then ?_
    refine vc_ret ?_
    exact vc_end1 Tryz.results46 rfl _ (ent_pick [] rfl) ⟨by rw [rangeRight_eq]; simp [*], rfl⟩
  ·skip
   refine vc_guardF 11 rfl rfl rfl rfl ?_
   refine vc_guardF 11 rfl rfl rfl rfl ?_
   refine vc_guardF 11 rfl rfl rfl rfl ?_
   refine vc_guardF 11 rfl rfl rfl rfl ?_
   refine vc_guardU 15 rfl rfl rfl ?_
   refine vc_guardU 15 rfl rfl rfl ?_
   refine vc_guardU 15 rfl rfl rfl ?_
   refine vc_guardU 15 rfl rfl rfl ?_
   refine vc_guardU 15 rfl rfl rfl ?_
   refine vc_guardF 11 rfl rfl rfl rfl ?_
   refine vp ?_
   refine vp ?_
   refine vc_nil ?_
   refine vc_then ?_
   refine vc_ret ?_
   exact vc_end1 Tryz.results46 rfl _ (ent_pick [] rfl) ⟨by rw [rangeRight_eq]; simp [*], rfl⟩
 ·skip
  refine vc_guardF 6 rfl rfl rfl rfl ?_
  refine vc_guardF 6 rfl rfl rfl rfl ?_
  refine vc_guardF 6 rfl rfl rfl rfl ?_
  refine vp ?_
  refine vp ?_
  refine vc_guardF 11 rfl rfl rfl rfl ?_
  refine vc_guardF 11 rfl rfl rfl rfl ?_
  refine vc_guardF 11 rfl rfl rfl rfl ?_
  refine vc_guardF 11 rfl rfl rfl rfl ?_
  refine vc_guardU 15 rfl rfl rfl ?_
  refine vc_guardU 15 rfl rfl rfl ?_
  refine vc_guardU 15 rfl rfl rfl ?_
  refine vc_guardU 15 rfl rfl rfl ?_
  refine vc_guardU 15 rfl rfl rfl ?_
  refine vc_guardF 11 rfl rfl rfl rfl ?_
  refine vp ?_
  refine vp ?_
  refine vc_nil ?_
  refine vc_then ?_
  refine vc_ret ?_
  exact vc_end1 Tryz.results46 rfl _ (ent_pick [] rfl) ⟨by rw [rangeRight_eq]; simp [*], rfl⟩
theorem mergeNil_bad {A : HP} {h : SH} {places : List Int} (hv : Vis A (Rd eInt h places)) (hb : places.length ≤ 9223372036854775807) (n : Int) (hn2 : n ≤ 9223372036854775807) (frm to : ByteArray) (limit : Int) (x : Val) (hx : 0 ≤ x.bits ∧ x.bits ≤ 18446744073709551615) (hR : (riseP none places && rangeRight frm to limit) = false) : Does Tryz.prog 6 [.int .i64 n, h.v, .agg #[.string frm, .string to, .int .i64 limit], .agg #[.bool x.num, .string x.text, .int .u64 x.bits]] [A] (fun v l => v = .bool true ∧ l = [A]) := by
 refine spec_of Tryz.func6 rfl Tryz.ntmps6 Tryz.results6 _ (by simp) fun ι F => ?_
 refine vc_see 0 rfl (hv.imp fun w r => r.len) (fun hlen => ?_)
 refine vc_seq ?_
 refine vc_region ?_
 refine vc_box [_, _, _] rfl rfl rfl (fun b6 => ?_)
 refine vc_box [_, _, _] rfl rfl rfl (fun b7 => ?_)
 refine vp ?_
 refine vc_nil ?_
 refine vc_then ?_
 refine vc_seq ?_
 refine vc_seq ?_
 refine vc_region ?_
 refine vc_callv ca_40 (us := []) (vs := []) rfl [] rfl [] rfl (awake13) rfl ?_
 rintro _ _ ⟨rfl, rfl⟩
 refine vp ?_
 refine vc_nil ?_
 refine vc_then ?_
 refine vc_condF rfl ?_
 refine vc_skip ?_
 refine vc_then ?_
 refine vc_seq ?_
 refine vc_seq ?_
 refine vc_region ?_
 refine vp ?_
 refine vc_y (y_len Tryz.underlying72 rfl (by first | assumption | rfl)) rfl ?_
 refine vp ?_
 refine vp ?_
 first | refine vc_splitP 30 rfl (fun c30 => ?_) (fun c30 => ?_) | refine vc_splitN 30 rfl (fun c30 => ?_) (fun c30 => ?_) | refine vc_split 30 rfl (fun c30 => ?_) (fun c30 => ?_)
 ·skip
  refine vc_guardF 30 rfl rfl rfl rfl ?_
  refine vc_guardF 30 rfl rfl rfl rfl ?_
  refine vc_guardF 30 rfl rfl rfl rfl ?_
  refine vc_guardF 30 rfl rfl rfl rfl ?_
  refine vp ?_
  refine vp ?_
  refine vc_guardF 36 rfl rfl rfl rfl ?_
  refine vc_guardF 36 rfl rfl rfl rfl ?_
  refine vc_guardF 36 rfl rfl rfl rfl ?_
  refine vc_guardF 36 rfl rfl rfl rfl ?_
  refine vp ?_
  refine vp ?_
  refine vc_guardF 42 rfl rfl rfl rfl ?_
  refine vc_guardF 42 rfl rfl rfl rfl ?_
  refine vc_guardF 42 rfl rfl rfl rfl ?_
  refine vp ?_
  refine vc_nil ?_
  refine vc_then ?_
  refine vc_condT rfl ?_
  refine vc_seq ?_
  refine vc_region ?_
  refine vp ?_
  refine vc_nil ?_
  refine vc_then ?_
  refine vc_ret ?_
  refine vc_thenRet ?_
  exact vc_end1 Tryz.results6 rfl _ (ent_pick [2] rfl) ⟨rfl, rfl⟩
 ·skip
  have hp20 : places.length ≤ 20 := by omega
  refine vc_guardT 30 rfl rfl ?_
  refine vc_y (y_fieldP fl_74_0 0 rfl rfl) rfl ?_
  refine vc_guardT 30 rfl rfl ?_
  refine vc_y (y_load1 1 rfl one_9 rfl (Pts.vis rfl)) rfl ?_
  refine vc_guardT 30 rfl rfl ?_
  refine vc_y (y_strLen Tryz.underlying9 rfl) rfl ?_
  refine vc_guardT 30 rfl rfl ?_
  iterate 3 refine vp ?_
  first | refine vc_splitP 36 rfl (fun c36 => ?_) (fun c36 => ?_) | refine vc_splitN 36 rfl (fun c36 => ?_) (fun c36 => ?_) | refine vc_split 36 rfl (fun c36 => ?_) (fun c36 => ?_)
  ·skip
   refine vc_guardF 36 rfl rfl rfl rfl ?_
   refine vc_guardF 36 rfl rfl rfl rfl ?_
   refine vc_guardF 36 rfl rfl rfl rfl ?_
   refine vc_guardF 36 rfl rfl rfl rfl ?_
   refine vp ?_
   refine vp ?_
   refine vc_guardF 42 rfl rfl rfl rfl ?_
   refine vc_guardF 42 rfl rfl rfl rfl ?_
   refine vc_guardF 42 rfl rfl rfl rfl ?_
   refine vp ?_
   refine vc_nil ?_
   refine vc_then ?_
   refine vc_condT rfl ?_
   refine vc_seq ?_
   refine vc_region ?_
   refine vp ?_
   refine vc_nil ?_
   refine vc_then ?_
   refine vc_ret ?_
   refine vc_thenRet ?_
   exact vc_end1 Tryz.results6 rfl _ (ent_pick [2] rfl) ⟨rfl, rfl⟩
  ·skip
   refine vc_guardT 36 rfl rfl ?_
   refine vc_y (y_fieldP fl_74_1 1 rfl rfl) rfl ?_
   refine vc_guardT 36 rfl rfl ?_
   refine vc_y (y_load1 1 rfl one_9 rfl (Pts.vis rfl)) rfl ?_
   refine vc_guardT 36 rfl rfl ?_
   refine vc_y (y_strLen Tryz.underlying9 rfl) rfl ?_
   refine vc_guardT 36 rfl rfl ?_
   iterate 3 refine vp ?_
   first | refine vc_splitP 42 rfl (fun c42 => ?_) (fun c42 => ?_) | refine vc_splitN 42 rfl (fun c42 => ?_) (fun c42 => ?_) | refine vc_split 42 rfl (fun c42 => ?_) (fun c42 => ?_)
   ·skip
    refine vc_guardF 42 rfl rfl rfl rfl ?_
    refine vc_guardF 42 rfl rfl rfl rfl ?_
    refine vc_guardF 42 rfl rfl rfl rfl ?_
    refine vp ?_
    refine vc_nil ?_
    refine vc_then ?_
    refine vc_condT rfl ?_
    refine vc_seq ?_
    refine vc_region ?_
    refine vp ?_
    refine vc_nil ?_
    refine vc_then ?_
    refine vc_ret ?_
    refine vc_thenRet ?_
    exact vc_end1 Tryz.results6 rfl _ (ent_pick [2] rfl) ⟨rfl, rfl⟩
   ·skip
    refine vc_guardT 42 rfl rfl ?_
    refine vc_y (y_loadA 0 rfl (cs := [_, _, _]) ag_45 rfl (Pts.visA rfl)) rfl ?_
    refine vc_guardT 42 rfl rfl ?_
    refine vc_callv ca_41 (us := []) (vs := []) rfl [_] rfl [] rfl (refVRight_spec x hx) rfl ?_
    rintro _ _ ⟨rfl, rfl⟩
    refine vc_guardT 42 rfl rfl ?_
    refine vp ?_
    refine vp ?_
    refine vc_nil ?_
    refine vc_then ?_
    first | refine vc_condP rfl (fun c46 => ?_) (fun c46 => ?_) | refine vc_condN rfl (fun c46 => ?_) (fun c46 => ?_) | refine vc_cond rfl (fun c46 => ?_) (fun c46 => ?_)
    ·skip
     refine vc_seq ?_
     refine vc_region ?_
     refine vp ?_
     refine vc_nil ?_
     refine vc_then ?_
     refine vc_ret ?_
     refine vc_thenRet ?_
     exact vc_end1 Tryz.results6 rfl _ (ent_pick [2] rfl) ⟨rfl, rfl⟩
    ·skip
     refine vc_skip ?_
     refine vc_then ?_
     refine vc_seq ?_
     refine vc_region ?_
     refine vp ?_
     refine vc_nil ?_
     refine vc_then ?_
     refine vc_seq ?_
     refine vc_region ?_
     refine vp ?_
     refine vp ?_
     refine vc_callv ca_42 (us := []) (vs := []) rfl [_, _] rfl [] rfl (step_nil n) rfl ?_
     rintro _ _ ⟨rfl, rfl⟩
     iterate 7 refine vp ?_
     refine vc_nil ?_
     refine vc_then ?_
     refine vc_seq ?_
     refine vc_region ?_
     refine vc_callv ca_43 (us := []) (vs := []) rfl [] rfl [] rfl (setting13) rfl ?_
     rintro _ _ ⟨rfl, rfl⟩
     refine vc_callv ca_11 (us := []) (vs := []) rfl [_] rfl [] rfl (new13) rfl ?_
     rintro _ _ ⟨bx, rfl, rfl⟩
     iterate 5 refine vp ?_
     refine vc_nil ?_
     refine vc_then ?_
     refine vc_seq ?_
     refine vc_region ?_
     refine vc_buildSlice (E := eSrc) [] [] rfl rfl (bs_80_0  ) rfl (fun h59 => ?_)
     refine vp ?_
     refine vc_nil ?_
     refine vc_then ?_
     refine vc_seq ?_
     refine vc_region ?_
     refine vp ?_
     refine vc_nil ?_
     refine vc_then ?_
     refine vc_seq ?_
     refine vc_seq ?_
     refine vc_region ?_
     refine vp ?_
     refine vc_nil ?_
     refine vc_then ?_
     refine vc_block ?_
     refine vc_loop (α := Nat × SH × Bool) (fun xq_ => match xq_ with | (i, hs, rs) => [(0, .int .i64 n), (1, h.v), (6, .pointer (some ⟨b6, 0, none⟩)), (9, .pointer none), (10, nilS.v), (11, .bool false), (12, .int .i64 2), (13, .pointer (some ⟨bx, 0, none⟩)), (15, hs.v), (16, .bool rs), (17, .int .i64 (i : Int))]) (fun xq_ => match xq_ with | (i, hs, rs) => [Sl eSrc hs (srcsN bx (places.take i)), RoomC bx X13, Pts b6 [.string frm, .string to, .int .i64 limit] 74, A]) (fun xq_ => match xq_ with | (i, hs, rs) => places.length - i) (fun xq_ => match xq_ with | (i, hs, rs) => i ≤ places.length ∧ riseP none places = (rs && riseP (lastI places i) (places.drop i))) (0, h59, true) ⟨Nat.zero_le _, rfl⟩ ⟨rfl, rfl, rfl, rfl, rfl, rfl, rfl, rfl, rfl, rfl, rfl, trivial⟩ (ent_pick [0, 0, 1, 1] rfl) ?_
     rintro ⟨i, hs, rs⟩ ⟨hi, hrs⟩
     show VC _ _ _ _ [(0, .int .i64 n), (1, h.v), (6, .pointer (some ⟨b6, 0, none⟩)), (9, .pointer none), (10, nilS.v), (11, .bool false), (12, .int .i64 2), (13, .pointer (some ⟨bx, 0, none⟩)), (15, hs.v), (16, .bool rs), (17, .int .i64 (i : Int))] ([Sl eSrc hs (srcsN bx (places.take i)), RoomC bx X13, Pts b6 [.string frm, .string to, .int .i64 limit] 74, A])
     refine vc_seq ?_
     refine vc_seq ?_
     refine vc_region ?_
     refine vp ?_
     refine vp ?_
     refine vc_y (y_len Tryz.underlying72 rfl (by first | assumption | rfl)) rfl ?_
     refine vp ?_
     refine vc_nil ?_
     refine vc_then ?_
     first | refine vc_condP rfl (fun c63 => ?_) (fun c63 => ?_) | refine vc_condN rfl (fun c63 => ?_) (fun c63 => ?_) | refine vc_cond rfl (fun c63 => ?_) (fun c63 => ?_)
     ·skip
      have hi2 : i < places.length := by omega
      refine vc_skip ?_
      refine vc_then ?_
      refine vc_seq ?_
      refine vc_block ?_
      refine vc_seq ?_
      refine vc_region ?_
      iterate 4 refine vp ?_
      refine vc_y (y_elem 3 rfl (hv) i rfl hi2 sl_72 rfl rfl) rfl ?_
      refine vc_y (y_load1 3 rfl one_3 rfl (Rd.vis1 (hv) (List.getElem?_eq_getElem hi2) rfl)) rfl ?_
      refine vc_y (y_build [(0, _), (2, _)] [_, _, _] rfl (bu_82_0_2 _ _ rfl rfl)) rfl ?_
      refine vc_buildSlice (E := eSrc) [(0, _)] [⟨some bx, 0, places[i]⟩] rfl rfl (bs_80_1 _ _ _ ) rfl (fun h73 => ?_)
      refine vc_append 1 rfl 0 rfl (Sl.vis) el_80_eSrc Tryz.underlying80 rfl rfl (by simp [srcsN]; omega) (by simp [srcsN]; omega) rfl (fun h74 => ?_)
      refine vc_re 1 rfl (congrArg (Sl eSrc h74) (srcsN_succ bx hi2).symm) ?_
      refine vp ?_
      refine vc_nil ?_
      refine vc_then ?_
      refine vc_draw (by kernel_rfl) _ none [4] rfl ?_
      refine tpp 0 ?_
      refine tpp 1 ?_
      first | refine va_splitP 76 rfl (fun c76 => ?_) (fun c76 => ?_) | refine va_splitN 76 rfl (fun c76 => ?_) (fun c76 => ?_) | refine va_split 76 rfl (fun c76 => ?_) (fun c76 => ?_)
      ·skip
       refine tgp 2 76 ?_
       refine tgp 3 76 ?_
       refine tkg 4 76 rfl (by exact y_elem 0 rfl (hv) i rfl hi2 sl_72 rfl rfl) ?_
       refine tkg 5 76 rfl (by exact y_load1 0 rfl one_3 rfl (Rd.vis1 (hv) (List.getElem?_eq_getElem hi2) rfl)) ?_
       refine tgp 6 76 ?_
       refine tpp 7 ?_
       refine tpp 8 ?_
       first | refine va_splitP 83 rfl (fun c83 => ?_) (fun c83 => ?_) | refine va_splitN 83 rfl (fun c83 => ?_) (fun c83 => ?_) | refine va_split 83 rfl (fun c83 => ?_) (fun c83 => ?_)
       ·skip
        refine tgp 9 83 ?_
        refine tgp 10 83 ?_
        refine tgp 11 83 ?_
        first | refine va_splitP 86 rfl (fun c86 => ?_) (fun c86 => ?_) | refine va_splitN 86 rfl (fun c86 => ?_) (fun c86 => ?_) | refine va_split 86 rfl (fun c86 => ?_) (fun c86 => ?_)
        ·skip
         have hls : lastI places i = none := by
          obtain rfl := (show i = 0 by omega)
          rfl
         refine sk 12 86 ?_
         refine sk 13 86 ?_
         refine sk 14 86 ?_
         refine sk 15 86 ?_
         refine sk 16 86 ?_
         refine sk 17 86 ?_
         refine sk 18 86 ?_
         refine sk 19 86 ?_
         refine sk 20 86 ?_
         refine sk 21 86 ?_
         refine tgp 22 83 ?_
         refine tpp 23 ?_
         refine tpp 24 ?_
         refine va_done (by kernel_rfl) ?_
         refine vc_inNormal ?_
         refine vc_then ?_
         refine vc_region ?_
         refine vc_keep [(0, .int .i64 n), (1, h.v), (6, .pointer (some ⟨b6, 0, none⟩)), (9, .pointer none), (10, nilS.v), (11, .bool false), (12, .int .i64 2), (13, .pointer (some ⟨bx, 0, none⟩)), (15, h74.v), (16, .bool (stepP places i rs hi2)), (17, .int .i64 (i : Int))] ⟨rfl, rfl, rfl, rfl, rfl, rfl, rfl, rfl, rfl, by first | (simp only [stepP, c76]; rfl) | (simp only [stepP, c76, c83, hls, prevLt]; rfl) | (simp only [stepP, c76, decide_eq_false c83]; rfl) | (simp only [stepP, c76, c83, hls, prevLt]; simp [*]), rfl, trivial⟩ ?_
         refine vp ?_
         first | refine vc_y (y_arith _ rfl (wrapNadd (by omega))) rfl ?_ | refine vc_y (y_arith _ rfl (wrap64 (by omega) (by omega))) rfl ?_ | refine vp ?_
         refine vp ?_
         refine vc_nil ?_
         refine vc_then ?_
         exact vc_again (x := (i, hs, rs)) (i + 1, h74, stepP places i rs hi2) ⟨hi2, stepP_ok hi2 hrs⟩ (by show places.length - (i + 1) < places.length - i; omega) ⟨rfl, rfl, rfl, rfl, rfl, rfl, rfl, rfl, rfl, rfl, rfl, trivial⟩ (ent_pick [1, 1, 1, 1] rfl)
        ·skip
         have hls := lastI_pos (l := places) (i := i) (by omega) (by omega)
         refine tgp 12 86 ?_
         refine tgp 13 86 ?_
         first | refine tg 14 86 rfl (by exact y_arith _ rfl (wrapNsub (by omega))) ?_ | refine tg 14 86 rfl (by exact y_arith _ rfl (wrap64 (by omega) (by omega))) ?_ | refine tgp 14 86 ?_
         refine tkg 15 86 rfl (by exact y_elem 0 rfl (hv) (i - 1) rfl (by omega) sl_72 rfl rfl) ?_
         refine tkg 16 86 rfl (by exact y_load1 0 rfl one_3 rfl (Rd.vis1 (hv) (List.getElem?_eq_getElem (by omega)) rfl)) ?_
         refine tgp 17 86 ?_
         refine tgp 18 86 ?_
         refine tkg 19 86 rfl (by exact y_elem 0 rfl (hv) i rfl hi2 sl_72 rfl rfl) ?_
         refine tkg 20 86 rfl (by exact y_load1 0 rfl one_3 rfl (Rd.vis1 (hv) (List.getElem?_eq_getElem hi2) rfl)) ?_
         refine tgp 21 86 ?_
         refine tgp 22 83 ?_
         refine tpp 23 ?_
         refine tpp 24 ?_
         refine va_done (by kernel_rfl) ?_
         refine vc_inNormal ?_
         refine vc_then ?_
         refine vc_region ?_
         refine vc_keep [(0, .int .i64 n), (1, h.v), (6, .pointer (some ⟨b6, 0, none⟩)), (9, .pointer none), (10, nilS.v), (11, .bool false), (12, .int .i64 2), (13, .pointer (some ⟨bx, 0, none⟩)), (15, h74.v), (16, .bool (stepP places i rs hi2)), (17, .int .i64 (i : Int))] ⟨rfl, rfl, rfl, rfl, rfl, rfl, rfl, rfl, rfl, by first | (simp only [stepP, c76]; rfl) | (simp only [stepP, c76, c83, hls, prevLt]; rfl) | (simp only [stepP, c76, decide_eq_false c83]; rfl) | (simp only [stepP, c76, c83, hls, prevLt]; simp [*]), rfl, trivial⟩ ?_
         refine vp ?_
         first | refine vc_y (y_arith _ rfl (wrapNadd (by omega))) rfl ?_ | refine vc_y (y_arith _ rfl (wrap64 (by omega) (by omega))) rfl ?_ | refine vp ?_
         refine vp ?_
         refine vc_nil ?_
         refine vc_then ?_
         exact vc_again (x := (i, hs, rs)) (i + 1, h74, stepP places i rs hi2) ⟨hi2, stepP_ok hi2 hrs⟩ (by show places.length - (i + 1) < places.length - i; omega) ⟨rfl, rfl, rfl, rfl, rfl, rfl, rfl, rfl, rfl, rfl, rfl, trivial⟩ (ent_pick [1, 1, 1, 1] rfl)
       ·skip
        refine sk 9 83 ?_
        refine sk 10 83 ?_
        refine sk 11 83 ?_
        refine sku 12 86 ?_
        refine sku 13 86 ?_
        refine sku 14 86 ?_
        refine sku 15 86 ?_
        refine sku 16 86 ?_
        refine sku 17 86 ?_
        refine sku 18 86 ?_
        refine sku 19 86 ?_
        refine sku 20 86 ?_
        refine sku 21 86 ?_
        refine sk 22 83 ?_
        refine tpp 23 ?_
        refine tpp 24 ?_
        refine va_done (by kernel_rfl) ?_
        refine vc_inNormal ?_
        refine vc_then ?_
        refine vc_region ?_
        refine vc_keep [(0, .int .i64 n), (1, h.v), (6, .pointer (some ⟨b6, 0, none⟩)), (9, .pointer none), (10, nilS.v), (11, .bool false), (12, .int .i64 2), (13, .pointer (some ⟨bx, 0, none⟩)), (15, h74.v), (16, .bool (stepP places i rs hi2)), (17, .int .i64 (i : Int))] ⟨rfl, rfl, rfl, rfl, rfl, rfl, rfl, rfl, rfl, by first | (simp only [stepP, c76]; rfl) | (simp only [stepP, c76, c83, hls, prevLt]; rfl) | (simp only [stepP, c76, decide_eq_false c83]; rfl) | (simp only [stepP, c76, c83, hls, prevLt]; simp [*]), rfl, trivial⟩ ?_
        refine vp ?_
        first | refine vc_y (y_arith _ rfl (wrapNadd (by omega))) rfl ?_ | refine vc_y (y_arith _ rfl (wrap64 (by omega) (by omega))) rfl ?_ | refine vp ?_
        refine vp ?_
        refine vc_nil ?_
        refine vc_then ?_
        exact vc_again (x := (i, hs, rs)) (i + 1, h74, stepP places i rs hi2) ⟨hi2, stepP_ok hi2 hrs⟩ (by show places.length - (i + 1) < places.length - i; omega) ⟨rfl, rfl, rfl, rfl, rfl, rfl, rfl, rfl, rfl, rfl, rfl, trivial⟩ (ent_pick [1, 1, 1, 1] rfl)
      ·skip
       refine sk 2 76 ?_
       refine sk 3 76 ?_
       refine sk 4 76 ?_
       refine sk 5 76 ?_
       refine sk 6 76 ?_
       refine tpp 7 ?_
       refine tpp 8 ?_
       refine sk 9 83 ?_
       refine sk 10 83 ?_
       refine sk 11 83 ?_
       refine sku 12 86 ?_
       refine sku 13 86 ?_
       refine sku 14 86 ?_
       refine sku 15 86 ?_
       refine sku 16 86 ?_
       refine sku 17 86 ?_
       refine sku 18 86 ?_
       refine sku 19 86 ?_
       refine sku 20 86 ?_
       refine sku 21 86 ?_
       refine sk 22 83 ?_
       refine tpp 23 ?_
       refine tpp 24 ?_
       refine va_done (by kernel_rfl) ?_
       refine vc_inNormal ?_
       refine vc_then ?_
       refine vc_region ?_
       refine vc_keep [(0, .int .i64 n), (1, h.v), (6, .pointer (some ⟨b6, 0, none⟩)), (9, .pointer none), (10, nilS.v), (11, .bool false), (12, .int .i64 2), (13, .pointer (some ⟨bx, 0, none⟩)), (15, h74.v), (16, .bool (stepP places i rs hi2)), (17, .int .i64 (i : Int))] ⟨rfl, rfl, rfl, rfl, rfl, rfl, rfl, rfl, rfl, by first | (simp only [stepP, c76]; rfl) | (simp only [stepP, c76, c83, hls, prevLt]; rfl) | (simp only [stepP, c76, decide_eq_false c83]; rfl) | (simp only [stepP, c76, c83, hls, prevLt]; simp [*]), rfl, trivial⟩ ?_
       refine vp ?_
       first | refine vc_y (y_arith _ rfl (wrapNadd (by omega))) rfl ?_ | refine vc_y (y_arith _ rfl (wrap64 (by omega) (by omega))) rfl ?_ | refine vp ?_
       refine vp ?_
       refine vc_nil ?_
       refine vc_then ?_
       exact vc_again (x := (i, hs, rs)) (i + 1, h74, stepP places i rs hi2) ⟨hi2, stepP_ok hi2 hrs⟩ (by show places.length - (i + 1) < places.length - i; omega) ⟨rfl, rfl, rfl, rfl, rfl, rfl, rfl, rfl, rfl, rfl, rfl, trivial⟩ (ent_pick [1, 1, 1, 1] rfl)
     ·skip
      obtain rfl : i = places.length := by omega
      rw [List.drop_length] at hrs
      rw [List.take_length]
      have hrs2 : riseP none places = rs := by rw [hrs]; exact Bool.and_true rs
      refine vc_exit ?_
      refine vc_thenExit ?_
      refine vc_thenExit ?_
      refine vc_inExit ?_
      refine vc_then ?_
      refine vc_seq ?_
      refine vc_region ?_
      refine vp ?_
      refine vc_y (y_loadA 2 rfl (cs := [_, _, _]) ag_74 rfl (Pts.visA rfl)) rfl ?_
      refine vc_callv ca_44 (us := []) (vs := []) rfl [_, _, _, _] rfl [0] rfl (mopen_arg (xs := srcsN bx places) Sl.vis (by simp [srcsN]; omega) frm to limit none 0 (srcsN_nil bx places) (by rw [riseP_eq]; exact hR)) rfl ?_
      rintro _ _ ⟨rfl, rfl⟩
      iterate 5 refine vp ?_
      refine vc_nil ?_
      refine vc_then ?_
      refine vc_seq ?_
      refine vc_draw (by kernel_rfl) _ none [2] rfl ?_
      refine tpp 0 ?_
      refine tp 1 rfl (by exact y_build [] [_, _, _] rfl (bu_82_n  )) ?_
      refine tk 4 rfl (by exact y_loadA 0 rfl (cs := [_, _, _]) ag_74 rfl (Pts.visA rfl)) ?_
      refine va_ready [2] (by kernel_rfl) rfl ?_
      refine vo_cons rfl (fun hC0 => ?_) ?_
      ·skip
       refine vc_buildSlice (E := eSrc) [(0, _)] [⟨none, 0, 0⟩] rfl rfl (bs_80_1 _ _ _ ) rfl (fun h108 => ?_)
       refine vc_nil ?_
       refine vc_then ?_
       refine va_kept hC0 [3] rfl ?_
       clear hC0
       refine va_ready [3] (by kernel_rfl) rfl ?_
       refine vo_cons rfl (fun hC0 => ?_) ?_
       ·skip
        refine vc_append 1 rfl 0 rfl (Sl.vis) el_80_eSrc Tryz.underlying80 rfl rfl (by simp [srcsN]; omega) (by simp [srcsN]; omega) rfl (fun h109 => ?_)
        refine vc_nil ?_
        refine vc_then ?_
        refine va_kept hC0 [3] rfl ?_
        clear hC0
        refine va_ready [5] (by kernel_rfl) rfl ?_
        refine vo_cons rfl (fun hC0 => ?_) ?_
        ·skip
         refine vc_callv ca_44 (us := []) (vs := []) rfl [_, _, _, _] rfl [1] rfl (mopen_nil (xs := srcsN bx places ++ [(⟨none, 0, 0⟩ : SrcV)]) (h := h109) Sl.vis (by simp [srcsN]; omega) frm to limit none 0 ⟨(⟨none, 0, 0⟩ : SrcV), by simp, rfl⟩) rfl ?_
         rintro _ _ ⟨rfl, rfl⟩
         refine vc_nil ?_
         refine vc_then ?_
         refine va_kept hC0 [3] rfl ?_
         clear hC0
         refine tpp 6 ?_
         refine tpp 7 ?_
         refine tpp 8 ?_
         refine tpp 9 ?_
         refine tpp 10 ?_
         refine va_done (by kernel_rfl) ?_
         refine vc_then ?_
         refine vc_seq ?_
         refine vc_seq ?_
         refine vc_region ?_
         refine vp ?_
         refine vc_y (y_len Tryz.underlying77 (h := nilS) rfl rfl) rfl ?_
         refine vp ?_
         refine vp ?_
         first | refine vc_splitP 117 rfl (fun c117 => ?_) (fun c117 => ?_) | refine vc_splitN 117 rfl (fun c117 => ?_) (fun c117 => ?_) | refine vc_split 117 rfl (fun c117 => ?_) (fun c117 => ?_)
         ·skip
          exact absurd rfl c117
         ·skip
          refine vc_guardT 117 rfl rfl ?_
          iterate 3 refine vp ?_
          refine vc_guardT 120 rfl rfl ?_
          refine vp ?_
          refine vc_guardT 120 rfl rfl ?_
          iterate 3 refine vp ?_
          first | refine vc_splitP 124 rfl (fun c124 => ?_) (fun c124 => ?_) | refine vc_splitN 124 rfl (fun c124 => ?_) (fun c124 => ?_) | refine vc_split 124 rfl (fun c124 => ?_) (fun c124 => ?_)
          ·skip
           simp at c124
          ·skip
           refine vc_guardT 124 rfl rfl ?_
           refine vp ?_
           refine vc_guardT 124 rfl rfl ?_
           refine vc_callv ca_45 (us := []) (vs := []) rfl [_] rfl [] rfl (told_nil) rfl ?_
           rintro _ _ ⟨rfl, rfl⟩
           refine vc_guardT 124 rfl rfl ?_
           iterate 3 refine vp ?_
           first | refine vc_splitP 129 rfl (fun c129 => ?_) (fun c129 => ?_) | refine vc_splitN 129 rfl (fun c129 => ?_) (fun c129 => ?_) | refine vc_split 129 rfl (fun c129 => ?_) (fun c129 => ?_)
           ·skip
            simp at c129
           ·skip
            refine vc_guardT 129 rfl rfl ?_
            refine vp ?_
            refine vc_guardT 129 rfl rfl ?_
            refine vc_y (y_neNil ep_76 rfl rfl) rfl ?_
            refine vp ?_
            refine vp ?_
            refine vc_guardT 133 rfl rfl ?_
            refine vp ?_
            refine vc_guardT 133 rfl rfl ?_
            refine vp ?_
            refine vp ?_
            refine vc_nil ?_
            refine vc_then ?_
            first | refine vc_condP rfl (fun c136 => ?_) (fun c136 => ?_) | refine vc_condN rfl (fun c136 => ?_) (fun c136 => ?_) | refine vc_cond rfl (fun c136 => ?_) (fun c136 => ?_)
            ·skip
             simp at c136
            ·skip
             refine vc_skip ?_
             refine vc_then ?_
             refine vc_seq ?_
             refine vc_seq ?_
             refine vc_region ?_
             iterate 3 refine vp ?_
             first | refine vc_splitP 139 rfl (fun c139 => ?_) (fun c139 => ?_) | refine vc_splitN 139 rfl (fun c139 => ?_) (fun c139 => ?_) | refine vc_split 139 rfl (fun c139 => ?_) (fun c139 => ?_)
             ·skip
              refine vc_guardF 139 rfl rfl rfl rfl ?_
              refine vc_guardF 139 rfl rfl rfl rfl ?_
              refine vc_guardF 139 rfl rfl rfl rfl ?_
              refine vp ?_
              refine vc_nil ?_
              refine vc_then ?_
              refine vc_condT rfl ?_
              refine vc_seq ?_
              refine vc_region ?_
              refine vp ?_
              refine vc_y (y_eqNil ep_76 rfl rfl) rfl ?_
              refine vp ?_
              refine vc_guardT 146 rfl rfl ?_
              refine vp ?_
              refine vc_guardT 146 rfl rfl ?_
              iterate 3 refine vp ?_
              refine vc_nil ?_
              refine vc_then ?_
              refine vc_ret ?_
              refine vc_thenRet ?_
              exact vc_end1 Tryz.results6 rfl _ (ent_pick [4] rfl) ⟨rfl, rfl⟩
             ·skip
              refine vc_guardT 139 rfl rfl ?_
              refine vc_y (y_loadA 3 rfl (cs := [_, _, _]) ag_74 rfl (Pts.visA rfl)) rfl ?_
              refine vc_guardT 139 rfl rfl ?_
              refine vc_callv ca_46 (us := []) (vs := []) rfl [_] rfl [] rfl (ref13Right_spec frm to limit) rfl ?_
              rintro _ _ ⟨rfl, rfl⟩
              refine vc_guardT 139 rfl rfl ?_
              refine vp ?_
              refine vp ?_
              refine vc_nil ?_
              refine vc_then ?_
              first | refine vc_condP rfl (fun c143 => ?_) (fun c143 => ?_) | refine vc_condN rfl (fun c143 => ?_) (fun c143 => ?_) | refine vc_cond rfl (fun c143 => ?_) (fun c143 => ?_)
              ·skip
               refine vc_seq ?_
               refine vc_region ?_
               refine vp ?_
               refine vc_y (y_eqNil ep_76 rfl rfl) rfl ?_
               refine vp ?_
               refine vc_guardT 146 rfl rfl ?_
               refine vp ?_
               refine vc_guardT 146 rfl rfl ?_
               iterate 3 refine vp ?_
               refine vc_nil ?_
               refine vc_then ?_
               refine vc_ret ?_
               refine vc_thenRet ?_
               exact vc_end1 Tryz.results6 rfl _ (ent_pick [4] rfl) ⟨rfl, rfl⟩
              ·skip
               rw [hrs2, notF c139, notF c143] at hR
               cases hR
        exact vo_nil
       exact vo_nil
      exact vo_nil
theorem mergeNil_arg {A : HP} {h : SH} {places : List Int} (hv : Vis A (Rd eInt h places)) (hb : places.length ≤ 9223372036854775807) (n : Int) (hn2 : n ≤ 9223372036854775807) (frm to : ByteArray) (limit : Int) (x : Val) (hx : 0 ≤ x.bits ∧ x.bits ≤ 18446744073709551615) (hR : (riseP none places && rangeRight frm to limit) = true) (hn : n < 1) : Does Tryz.prog 6 [.int .i64 n, h.v, .agg #[.string frm, .string to, .int .i64 limit], .agg #[.bool x.num, .string x.text, .int .u64 x.bits]] [A] (fun v l => v = .bool true ∧ l = [A]) := by
 refine spec_of Tryz.func6 rfl Tryz.ntmps6 Tryz.results6 _ (by simp) fun ι F => ?_
 refine vc_see 0 rfl (hv.imp fun w r => r.len) (fun hlen => ?_)
 refine vc_seq ?_
 refine vc_region ?_
 refine vc_box [_, _, _] rfl rfl rfl (fun b6 => ?_)
 refine vc_box [_, _, _] rfl rfl rfl (fun b7 => ?_)
 refine vp ?_
 refine vc_nil ?_
 refine vc_then ?_
 refine vc_seq ?_
 refine vc_seq ?_
 refine vc_region ?_
 refine vc_callv ca_40 (us := []) (vs := []) rfl [] rfl [] rfl (awake13) rfl ?_
 rintro _ _ ⟨rfl, rfl⟩
 refine vp ?_
 refine vc_nil ?_
 refine vc_then ?_
 refine vc_condF rfl ?_
 refine vc_skip ?_
 refine vc_then ?_
 refine vc_seq ?_
 refine vc_seq ?_
 refine vc_region ?_
 refine vp ?_
 refine vc_y (y_len Tryz.underlying72 rfl (by first | assumption | rfl)) rfl ?_
 refine vp ?_
 refine vp ?_
 first | refine vc_splitP 30 rfl (fun c30 => ?_) (fun c30 => ?_) | refine vc_splitN 30 rfl (fun c30 => ?_) (fun c30 => ?_) | refine vc_split 30 rfl (fun c30 => ?_) (fun c30 => ?_)
 ·skip
  refine vc_guardF 30 rfl rfl rfl rfl ?_
  refine vc_guardF 30 rfl rfl rfl rfl ?_
  refine vc_guardF 30 rfl rfl rfl rfl ?_
  refine vc_guardF 30 rfl rfl rfl rfl ?_
  refine vp ?_
  refine vp ?_
  refine vc_guardF 36 rfl rfl rfl rfl ?_
  refine vc_guardF 36 rfl rfl rfl rfl ?_
  refine vc_guardF 36 rfl rfl rfl rfl ?_
  refine vc_guardF 36 rfl rfl rfl rfl ?_
  refine vp ?_
  refine vp ?_
  refine vc_guardF 42 rfl rfl rfl rfl ?_
  refine vc_guardF 42 rfl rfl rfl rfl ?_
  refine vc_guardF 42 rfl rfl rfl rfl ?_
  refine vp ?_
  refine vc_nil ?_
  refine vc_then ?_
  refine vc_condT rfl ?_
  refine vc_seq ?_
  refine vc_region ?_
  refine vp ?_
  refine vc_nil ?_
  refine vc_then ?_
  refine vc_ret ?_
  refine vc_thenRet ?_
  exact vc_end1 Tryz.results6 rfl _ (ent_pick [2] rfl) ⟨rfl, rfl⟩
 ·skip
  have hp20 : places.length ≤ 20 := by omega
  refine vc_guardT 30 rfl rfl ?_
  refine vc_y (y_fieldP fl_74_0 0 rfl rfl) rfl ?_
  refine vc_guardT 30 rfl rfl ?_
  refine vc_y (y_load1 1 rfl one_9 rfl (Pts.vis rfl)) rfl ?_
  refine vc_guardT 30 rfl rfl ?_
  refine vc_y (y_strLen Tryz.underlying9 rfl) rfl ?_
  refine vc_guardT 30 rfl rfl ?_
  iterate 3 refine vp ?_
  first | refine vc_splitP 36 rfl (fun c36 => ?_) (fun c36 => ?_) | refine vc_splitN 36 rfl (fun c36 => ?_) (fun c36 => ?_) | refine vc_split 36 rfl (fun c36 => ?_) (fun c36 => ?_)
  ·skip
   refine vc_guardF 36 rfl rfl rfl rfl ?_
   refine vc_guardF 36 rfl rfl rfl rfl ?_
   refine vc_guardF 36 rfl rfl rfl rfl ?_
   refine vc_guardF 36 rfl rfl rfl rfl ?_
   refine vp ?_
   refine vp ?_
   refine vc_guardF 42 rfl rfl rfl rfl ?_
   refine vc_guardF 42 rfl rfl rfl rfl ?_
   refine vc_guardF 42 rfl rfl rfl rfl ?_
   refine vp ?_
   refine vc_nil ?_
   refine vc_then ?_
   refine vc_condT rfl ?_
   refine vc_seq ?_
   refine vc_region ?_
   refine vp ?_
   refine vc_nil ?_
   refine vc_then ?_
   refine vc_ret ?_
   refine vc_thenRet ?_
   exact vc_end1 Tryz.results6 rfl _ (ent_pick [2] rfl) ⟨rfl, rfl⟩
  ·skip
   refine vc_guardT 36 rfl rfl ?_
   refine vc_y (y_fieldP fl_74_1 1 rfl rfl) rfl ?_
   refine vc_guardT 36 rfl rfl ?_
   refine vc_y (y_load1 1 rfl one_9 rfl (Pts.vis rfl)) rfl ?_
   refine vc_guardT 36 rfl rfl ?_
   refine vc_y (y_strLen Tryz.underlying9 rfl) rfl ?_
   refine vc_guardT 36 rfl rfl ?_
   iterate 3 refine vp ?_
   first | refine vc_splitP 42 rfl (fun c42 => ?_) (fun c42 => ?_) | refine vc_splitN 42 rfl (fun c42 => ?_) (fun c42 => ?_) | refine vc_split 42 rfl (fun c42 => ?_) (fun c42 => ?_)
   ·skip
    refine vc_guardF 42 rfl rfl rfl rfl ?_
    refine vc_guardF 42 rfl rfl rfl rfl ?_
    refine vc_guardF 42 rfl rfl rfl rfl ?_
    refine vp ?_
    refine vc_nil ?_
    refine vc_then ?_
    refine vc_condT rfl ?_
    refine vc_seq ?_
    refine vc_region ?_
    refine vp ?_
    refine vc_nil ?_
    refine vc_then ?_
    refine vc_ret ?_
    refine vc_thenRet ?_
    exact vc_end1 Tryz.results6 rfl _ (ent_pick [2] rfl) ⟨rfl, rfl⟩
   ·skip
    refine vc_guardT 42 rfl rfl ?_
    refine vc_y (y_loadA 0 rfl (cs := [_, _, _]) ag_45 rfl (Pts.visA rfl)) rfl ?_
    refine vc_guardT 42 rfl rfl ?_
    refine vc_callv ca_41 (us := []) (vs := []) rfl [_] rfl [] rfl (refVRight_spec x hx) rfl ?_
    rintro _ _ ⟨rfl, rfl⟩
    refine vc_guardT 42 rfl rfl ?_
    refine vp ?_
    refine vp ?_
    refine vc_nil ?_
    refine vc_then ?_
    first | refine vc_condP rfl (fun c46 => ?_) (fun c46 => ?_) | refine vc_condN rfl (fun c46 => ?_) (fun c46 => ?_) | refine vc_cond rfl (fun c46 => ?_) (fun c46 => ?_)
    ·skip
     refine vc_seq ?_
     refine vc_region ?_
     refine vp ?_
     refine vc_nil ?_
     refine vc_then ?_
     refine vc_ret ?_
     refine vc_thenRet ?_
     exact vc_end1 Tryz.results6 rfl _ (ent_pick [2] rfl) ⟨rfl, rfl⟩
    ·skip
     refine vc_skip ?_
     refine vc_then ?_
     refine vc_seq ?_
     refine vc_region ?_
     refine vp ?_
     refine vc_nil ?_
     refine vc_then ?_
     refine vc_seq ?_
     refine vc_region ?_
     refine vp ?_
     refine vp ?_
     refine vc_callv ca_42 (us := []) (vs := []) rfl [_, _] rfl [] rfl (step_nil n) rfl ?_
     rintro _ _ ⟨rfl, rfl⟩
     iterate 7 refine vp ?_
     refine vc_nil ?_
     refine vc_then ?_
     refine vc_seq ?_
     refine vc_region ?_
     refine vc_callv ca_43 (us := []) (vs := []) rfl [] rfl [] rfl (setting13) rfl ?_
     rintro _ _ ⟨rfl, rfl⟩
     refine vc_callv ca_11 (us := []) (vs := []) rfl [_] rfl [] rfl (new13) rfl ?_
     rintro _ _ ⟨bx, rfl, rfl⟩
     iterate 5 refine vp ?_
     refine vc_nil ?_
     refine vc_then ?_
     refine vc_seq ?_
     refine vc_region ?_
     refine vc_buildSlice (E := eSrc) [] [] rfl rfl (bs_80_0  ) rfl (fun h59 => ?_)
     refine vp ?_
     refine vc_nil ?_
     refine vc_then ?_
     refine vc_seq ?_
     refine vc_region ?_
     refine vp ?_
     refine vc_nil ?_
     refine vc_then ?_
     refine vc_seq ?_
     refine vc_seq ?_
     refine vc_region ?_
     refine vp ?_
     refine vc_nil ?_
     refine vc_then ?_
     refine vc_block ?_
     refine vc_loop (α := Nat × SH × Bool) (fun xq_ => match xq_ with | (i, hs, rs) => [(0, .int .i64 n), (1, h.v), (6, .pointer (some ⟨b6, 0, none⟩)), (9, .pointer none), (10, nilS.v), (11, .bool false), (12, .int .i64 2), (13, .pointer (some ⟨bx, 0, none⟩)), (15, hs.v), (16, .bool rs), (17, .int .i64 (i : Int))]) (fun xq_ => match xq_ with | (i, hs, rs) => [Sl eSrc hs (srcsN bx (places.take i)), RoomC bx X13, Pts b6 [.string frm, .string to, .int .i64 limit] 74, A]) (fun xq_ => match xq_ with | (i, hs, rs) => places.length - i) (fun xq_ => match xq_ with | (i, hs, rs) => i ≤ places.length ∧ riseP none places = (rs && riseP (lastI places i) (places.drop i))) (0, h59, true) ⟨Nat.zero_le _, rfl⟩ ⟨rfl, rfl, rfl, rfl, rfl, rfl, rfl, rfl, rfl, rfl, rfl, trivial⟩ (ent_pick [0, 0, 1, 1] rfl) ?_
     rintro ⟨i, hs, rs⟩ ⟨hi, hrs⟩
     show VC _ _ _ _ [(0, .int .i64 n), (1, h.v), (6, .pointer (some ⟨b6, 0, none⟩)), (9, .pointer none), (10, nilS.v), (11, .bool false), (12, .int .i64 2), (13, .pointer (some ⟨bx, 0, none⟩)), (15, hs.v), (16, .bool rs), (17, .int .i64 (i : Int))] ([Sl eSrc hs (srcsN bx (places.take i)), RoomC bx X13, Pts b6 [.string frm, .string to, .int .i64 limit] 74, A])
     refine vc_seq ?_
     refine vc_seq ?_
     refine vc_region ?_
     refine vp ?_
     refine vp ?_
     refine vc_y (y_len Tryz.underlying72 rfl (by first | assumption | rfl)) rfl ?_
     refine vp ?_
     refine vc_nil ?_
     refine vc_then ?_
     first | refine vc_condP rfl (fun c63 => ?_) (fun c63 => ?_) | refine vc_condN rfl (fun c63 => ?_) (fun c63 => ?_) | refine vc_cond rfl (fun c63 => ?_) (fun c63 => ?_)
     ·skip
      have hi2 : i < places.length := by omega
      refine vc_skip ?_
      refine vc_then ?_
      refine vc_seq ?_
      refine vc_block ?_
      refine vc_seq ?_
      refine vc_region ?_
      iterate 4 refine vp ?_
      refine vc_y (y_elem 3 rfl (hv) i rfl hi2 sl_72 rfl rfl) rfl ?_
      refine vc_y (y_load1 3 rfl one_3 rfl (Rd.vis1 (hv) (List.getElem?_eq_getElem hi2) rfl)) rfl ?_
      refine vc_y (y_build [(0, _), (2, _)] [_, _, _] rfl (bu_82_0_2 _ _ rfl rfl)) rfl ?_
      refine vc_buildSlice (E := eSrc) [(0, _)] [⟨some bx, 0, places[i]⟩] rfl rfl (bs_80_1 _ _ _ ) rfl (fun h73 => ?_)
      refine vc_append 1 rfl 0 rfl (Sl.vis) el_80_eSrc Tryz.underlying80 rfl rfl (by simp [srcsN]; omega) (by simp [srcsN]; omega) rfl (fun h74 => ?_)
      refine vc_re 1 rfl (congrArg (Sl eSrc h74) (srcsN_succ bx hi2).symm) ?_
      refine vp ?_
      refine vc_nil ?_
      refine vc_then ?_
      refine vc_draw (by kernel_rfl) _ none [4] rfl ?_
      refine tpp 0 ?_
      refine tpp 1 ?_
      first | refine va_splitP 76 rfl (fun c76 => ?_) (fun c76 => ?_) | refine va_splitN 76 rfl (fun c76 => ?_) (fun c76 => ?_) | refine va_split 76 rfl (fun c76 => ?_) (fun c76 => ?_)
      ·skip
       refine tgp 2 76 ?_
       refine tgp 3 76 ?_
       refine tkg 4 76 rfl (by exact y_elem 0 rfl (hv) i rfl hi2 sl_72 rfl rfl) ?_
       refine tkg 5 76 rfl (by exact y_load1 0 rfl one_3 rfl (Rd.vis1 (hv) (List.getElem?_eq_getElem hi2) rfl)) ?_
       refine tgp 6 76 ?_
       refine tpp 7 ?_
       refine tpp 8 ?_
       first | refine va_splitP 83 rfl (fun c83 => ?_) (fun c83 => ?_) | refine va_splitN 83 rfl (fun c83 => ?_) (fun c83 => ?_) | refine va_split 83 rfl (fun c83 => ?_) (fun c83 => ?_)
       ·skip
        refine tgp 9 83 ?_
        refine tgp 10 83 ?_
        refine tgp 11 83 ?_
        first | refine va_splitP 86 rfl (fun c86 => ?_) (fun c86 => ?_) | refine va_splitN 86 rfl (fun c86 => ?_) (fun c86 => ?_) | refine va_split 86 rfl (fun c86 => ?_) (fun c86 => ?_)
        ·skip
         have hls : lastI places i = none := by
          obtain rfl := (show i = 0 by omega)
          rfl
         refine sk 12 86 ?_
         refine sk 13 86 ?_
         refine sk 14 86 ?_
         refine sk 15 86 ?_
         refine sk 16 86 ?_
         refine sk 17 86 ?_
         refine sk 18 86 ?_
         refine sk 19 86 ?_
         refine sk 20 86 ?_
         refine sk 21 86 ?_
         refine tgp 22 83 ?_
         refine tpp 23 ?_
         refine tpp 24 ?_
         refine va_done (by kernel_rfl) ?_
         refine vc_inNormal ?_
         refine vc_then ?_
         refine vc_region ?_
         refine vc_keep [(0, .int .i64 n), (1, h.v), (6, .pointer (some ⟨b6, 0, none⟩)), (9, .pointer none), (10, nilS.v), (11, .bool false), (12, .int .i64 2), (13, .pointer (some ⟨bx, 0, none⟩)), (15, h74.v), (16, .bool (stepP places i rs hi2)), (17, .int .i64 (i : Int))] ⟨rfl, rfl, rfl, rfl, rfl, rfl, rfl, rfl, rfl, by first | (simp only [stepP, c76]; rfl) | (simp only [stepP, c76, c83, hls, prevLt]; rfl) | (simp only [stepP, c76, decide_eq_false c83]; rfl) | (simp only [stepP, c76, c83, hls, prevLt]; simp [*]), rfl, trivial⟩ ?_
         refine vp ?_
         first | refine vc_y (y_arith _ rfl (wrapNadd (by omega))) rfl ?_ | refine vc_y (y_arith _ rfl (wrap64 (by omega) (by omega))) rfl ?_ | refine vp ?_
         refine vp ?_
         refine vc_nil ?_
         refine vc_then ?_
         exact vc_again (x := (i, hs, rs)) (i + 1, h74, stepP places i rs hi2) ⟨hi2, stepP_ok hi2 hrs⟩ (by show places.length - (i + 1) < places.length - i; omega) ⟨rfl, rfl, rfl, rfl, rfl, rfl, rfl, rfl, rfl, rfl, rfl, trivial⟩ (ent_pick [1, 1, 1, 1] rfl)
        ·skip
         have hls := lastI_pos (l := places) (i := i) (by omega) (by omega)
         refine tgp 12 86 ?_
         refine tgp 13 86 ?_
         first | refine tg 14 86 rfl (by exact y_arith _ rfl (wrapNsub (by omega))) ?_ | refine tg 14 86 rfl (by exact y_arith _ rfl (wrap64 (by omega) (by omega))) ?_ | refine tgp 14 86 ?_
         refine tkg 15 86 rfl (by exact y_elem 0 rfl (hv) (i - 1) rfl (by omega) sl_72 rfl rfl) ?_
         refine tkg 16 86 rfl (by exact y_load1 0 rfl one_3 rfl (Rd.vis1 (hv) (List.getElem?_eq_getElem (by omega)) rfl)) ?_
         refine tgp 17 86 ?_
         refine tgp 18 86 ?_
         refine tkg 19 86 rfl (by exact y_elem 0 rfl (hv) i rfl hi2 sl_72 rfl rfl) ?_
         refine tkg 20 86 rfl (by exact y_load1 0 rfl one_3 rfl (Rd.vis1 (hv) (List.getElem?_eq_getElem hi2) rfl)) ?_
         refine tgp 21 86 ?_
         refine tgp 22 83 ?_
         refine tpp 23 ?_
         refine tpp 24 ?_
         refine va_done (by kernel_rfl) ?_
         refine vc_inNormal ?_
         refine vc_then ?_
         refine vc_region ?_
         refine vc_keep [(0, .int .i64 n), (1, h.v), (6, .pointer (some ⟨b6, 0, none⟩)), (9, .pointer none), (10, nilS.v), (11, .bool false), (12, .int .i64 2), (13, .pointer (some ⟨bx, 0, none⟩)), (15, h74.v), (16, .bool (stepP places i rs hi2)), (17, .int .i64 (i : Int))] ⟨rfl, rfl, rfl, rfl, rfl, rfl, rfl, rfl, rfl, by first | (simp only [stepP, c76]; rfl) | (simp only [stepP, c76, c83, hls, prevLt]; rfl) | (simp only [stepP, c76, decide_eq_false c83]; rfl) | (simp only [stepP, c76, c83, hls, prevLt]; simp [*]), rfl, trivial⟩ ?_
         refine vp ?_
         first | refine vc_y (y_arith _ rfl (wrapNadd (by omega))) rfl ?_ | refine vc_y (y_arith _ rfl (wrap64 (by omega) (by omega))) rfl ?_ | refine vp ?_
         refine vp ?_
         refine vc_nil ?_
         refine vc_then ?_
         exact vc_again (x := (i, hs, rs)) (i + 1, h74, stepP places i rs hi2) ⟨hi2, stepP_ok hi2 hrs⟩ (by show places.length - (i + 1) < places.length - i; omega) ⟨rfl, rfl, rfl, rfl, rfl, rfl, rfl, rfl, rfl, rfl, rfl, trivial⟩ (ent_pick [1, 1, 1, 1] rfl)
       ·skip
        refine sk 9 83 ?_
        refine sk 10 83 ?_
        refine sk 11 83 ?_
        refine sku 12 86 ?_
        refine sku 13 86 ?_
        refine sku 14 86 ?_
        refine sku 15 86 ?_
        refine sku 16 86 ?_
        refine sku 17 86 ?_
        refine sku 18 86 ?_
        refine sku 19 86 ?_
        refine sku 20 86 ?_
        refine sku 21 86 ?_
        refine sk 22 83 ?_
        refine tpp 23 ?_
        refine tpp 24 ?_
        refine va_done (by kernel_rfl) ?_
        refine vc_inNormal ?_
        refine vc_then ?_
        refine vc_region ?_
        refine vc_keep [(0, .int .i64 n), (1, h.v), (6, .pointer (some ⟨b6, 0, none⟩)), (9, .pointer none), (10, nilS.v), (11, .bool false), (12, .int .i64 2), (13, .pointer (some ⟨bx, 0, none⟩)), (15, h74.v), (16, .bool (stepP places i rs hi2)), (17, .int .i64 (i : Int))] ⟨rfl, rfl, rfl, rfl, rfl, rfl, rfl, rfl, rfl, by first | (simp only [stepP, c76]; rfl) | (simp only [stepP, c76, c83, hls, prevLt]; rfl) | (simp only [stepP, c76, decide_eq_false c83]; rfl) | (simp only [stepP, c76, c83, hls, prevLt]; simp [*]), rfl, trivial⟩ ?_
        refine vp ?_
        first | refine vc_y (y_arith _ rfl (wrapNadd (by omega))) rfl ?_ | refine vc_y (y_arith _ rfl (wrap64 (by omega) (by omega))) rfl ?_ | refine vp ?_
        refine vp ?_
        refine vc_nil ?_
        refine vc_then ?_
        exact vc_again (x := (i, hs, rs)) (i + 1, h74, stepP places i rs hi2) ⟨hi2, stepP_ok hi2 hrs⟩ (by show places.length - (i + 1) < places.length - i; omega) ⟨rfl, rfl, rfl, rfl, rfl, rfl, rfl, rfl, rfl, rfl, rfl, trivial⟩ (ent_pick [1, 1, 1, 1] rfl)
      ·skip
       refine sk 2 76 ?_
       refine sk 3 76 ?_
       refine sk 4 76 ?_
       refine sk 5 76 ?_
       refine sk 6 76 ?_
       refine tpp 7 ?_
       refine tpp 8 ?_
       refine sk 9 83 ?_
       refine sk 10 83 ?_
       refine sk 11 83 ?_
       refine sku 12 86 ?_
       refine sku 13 86 ?_
       refine sku 14 86 ?_
       refine sku 15 86 ?_
       refine sku 16 86 ?_
       refine sku 17 86 ?_
       refine sku 18 86 ?_
       refine sku 19 86 ?_
       refine sku 20 86 ?_
       refine sku 21 86 ?_
       refine sk 22 83 ?_
       refine tpp 23 ?_
       refine tpp 24 ?_
       refine va_done (by kernel_rfl) ?_
       refine vc_inNormal ?_
       refine vc_then ?_
       refine vc_region ?_
       refine vc_keep [(0, .int .i64 n), (1, h.v), (6, .pointer (some ⟨b6, 0, none⟩)), (9, .pointer none), (10, nilS.v), (11, .bool false), (12, .int .i64 2), (13, .pointer (some ⟨bx, 0, none⟩)), (15, h74.v), (16, .bool (stepP places i rs hi2)), (17, .int .i64 (i : Int))] ⟨rfl, rfl, rfl, rfl, rfl, rfl, rfl, rfl, rfl, by first | (simp only [stepP, c76]; rfl) | (simp only [stepP, c76, c83, hls, prevLt]; rfl) | (simp only [stepP, c76, decide_eq_false c83]; rfl) | (simp only [stepP, c76, c83, hls, prevLt]; simp [*]), rfl, trivial⟩ ?_
       refine vp ?_
       first | refine vc_y (y_arith _ rfl (wrapNadd (by omega))) rfl ?_ | refine vc_y (y_arith _ rfl (wrap64 (by omega) (by omega))) rfl ?_ | refine vp ?_
       refine vp ?_
       refine vc_nil ?_
       refine vc_then ?_
       exact vc_again (x := (i, hs, rs)) (i + 1, h74, stepP places i rs hi2) ⟨hi2, stepP_ok hi2 hrs⟩ (by show places.length - (i + 1) < places.length - i; omega) ⟨rfl, rfl, rfl, rfl, rfl, rfl, rfl, rfl, rfl, rfl, rfl, trivial⟩ (ent_pick [1, 1, 1, 1] rfl)
     ·skip
      obtain rfl : i = places.length := by omega
      rw [List.drop_length] at hrs
      rw [List.take_length]
      have hrs2 : riseP none places = rs := by rw [hrs]; exact Bool.and_true rs
      refine vc_exit ?_
      refine vc_thenExit ?_
      refine vc_thenExit ?_
      refine vc_inExit ?_
      refine vc_then ?_
      refine vc_seq ?_
      refine vc_region ?_
      refine vp ?_
      refine vc_y (y_loadA 2 rfl (cs := [_, _, _]) ag_74 rfl (Pts.visA rfl)) rfl ?_
      refine vc_callv ca_44 (us := []) (vs := []) rfl [_, _, _, _] rfl [0] rfl (mopen_ok (xs := srcsN bx places) Sl.vis (by simp [srcsN]; omega) frm to limit none 0 (srcsN_nil bx places) (by rw [riseP_eq]; exact hR)) rfl ?_
      rintro _ _ ⟨bc, hl, rfl, rfl⟩
      iterate 5 refine vp ?_
      refine vc_nil ?_
      refine vc_then ?_
      refine vc_seq ?_
      refine vc_draw (by kernel_rfl) _ none [4] rfl ?_
      refine tpp 0 ?_
      refine tp 1 rfl (by exact y_build [] [_, _, _] rfl (bu_82_n  )) ?_
      refine tk 4 rfl (by exact y_loadA 0 rfl (cs := [_, _, _]) ag_74 rfl (Pts.visA rfl)) ?_
      refine va_ready [2] (by kernel_rfl) rfl ?_
      refine vo_cons rfl (fun hC0 => ?_) ?_
      ·skip
       refine vc_buildSlice (E := eSrc) [(0, _)] [⟨none, 0, 0⟩] rfl rfl (bs_80_1 _ _ _ ) rfl (fun h108 => ?_)
       refine vc_nil ?_
       refine vc_then ?_
       refine va_kept hC0 [5] rfl ?_
       clear hC0
       refine va_ready [3] (by kernel_rfl) rfl ?_
       refine vo_cons rfl (fun hC0 => ?_) ?_
       ·skip
        refine vc_append 3 rfl 0 rfl (Sl.vis) el_80_eSrc Tryz.underlying80 rfl rfl (by simp [srcsN]; omega) (by simp [srcsN]; omega) rfl (fun h109 => ?_)
        refine vc_nil ?_
        refine vc_then ?_
        refine va_kept hC0 [5] rfl ?_
        clear hC0
        refine va_ready [5] (by kernel_rfl) rfl ?_
        refine vo_cons rfl (fun hC0 => ?_) ?_
        ·skip
         refine vc_callv ca_44 (us := []) (vs := []) rfl [_, _, _, _] rfl [3] rfl (mopen_nil (xs := srcsN bx places ++ [(⟨none, 0, 0⟩ : SrcV)]) (h := h109) Sl.vis (by simp [srcsN]; omega) frm to limit none 0 ⟨(⟨none, 0, 0⟩ : SrcV), by simp, rfl⟩) rfl ?_
         rintro _ _ ⟨rfl, rfl⟩
         refine vc_nil ?_
         refine vc_then ?_
         refine va_kept hC0 [5] rfl ?_
         clear hC0
         refine tpp 6 ?_
         refine tpp 7 ?_
         refine tpp 8 ?_
         refine tpp 9 ?_
         refine tpp 10 ?_
         refine va_done (by kernel_rfl) ?_
         refine vc_then ?_
         refine vc_seq ?_
         refine vc_seq ?_
         refine vc_region ?_
         refine vp ?_
         refine vc_y (y_len Tryz.underlying77 (h := nilS) rfl rfl) rfl ?_
         refine vp ?_
         refine vp ?_
         first | refine vc_splitP 117 rfl (fun c117 => ?_) (fun c117 => ?_) | refine vc_splitN 117 rfl (fun c117 => ?_) (fun c117 => ?_) | refine vc_split 117 rfl (fun c117 => ?_) (fun c117 => ?_)
         ·skip
          exact absurd rfl c117
         ·skip
          refine vc_guardT 117 rfl rfl ?_
          iterate 3 refine vp ?_
          refine vc_guardT 120 rfl rfl ?_
          refine vp ?_
          refine vc_guardT 120 rfl rfl ?_
          iterate 3 refine vp ?_
          first | refine vc_splitP 124 rfl (fun c124 => ?_) (fun c124 => ?_) | refine vc_splitN 124 rfl (fun c124 => ?_) (fun c124 => ?_) | refine vc_split 124 rfl (fun c124 => ?_) (fun c124 => ?_)
          ·skip
           simp at c124
          ·skip
           refine vc_guardT 124 rfl rfl ?_
           refine vp ?_
           refine vc_guardT 124 rfl rfl ?_
           refine vc_callv ca_45 (us := []) (vs := []) rfl [_] rfl [] rfl (told_nil) rfl ?_
           rintro _ _ ⟨rfl, rfl⟩
           refine vc_guardT 124 rfl rfl ?_
           iterate 3 refine vp ?_
           first | refine vc_splitP 129 rfl (fun c129 => ?_) (fun c129 => ?_) | refine vc_splitN 129 rfl (fun c129 => ?_) (fun c129 => ?_) | refine vc_split 129 rfl (fun c129 => ?_) (fun c129 => ?_)
           ·skip
            simp at c129
           ·skip
            refine vc_guardT 129 rfl rfl ?_
            refine vp ?_
            refine vc_guardT 129 rfl rfl ?_
            refine vc_y (y_neNil ep_76 rfl rfl) rfl ?_
            refine vp ?_
            refine vp ?_
            refine vc_guardT 133 rfl rfl ?_
            refine vp ?_
            refine vc_guardT 133 rfl rfl ?_
            refine vp ?_
            refine vp ?_
            refine vc_nil ?_
            refine vc_then ?_
            first | refine vc_condP rfl (fun c136 => ?_) (fun c136 => ?_) | refine vc_condN rfl (fun c136 => ?_) (fun c136 => ?_) | refine vc_cond rfl (fun c136 => ?_) (fun c136 => ?_)
            ·skip
             simp at c136
            ·skip
             refine vc_skip ?_
             refine vc_then ?_
             refine vc_seq ?_
             refine vc_seq ?_
             refine vc_region ?_
             iterate 3 refine vp ?_
             first | refine vc_splitP 139 rfl (fun c139 => ?_) (fun c139 => ?_) | refine vc_splitN 139 rfl (fun c139 => ?_) (fun c139 => ?_) | refine vc_split 139 rfl (fun c139 => ?_) (fun c139 => ?_)
             ·skip
              rw [hrs2, notT c139] at hR
              cases hR
             ·skip
              refine vc_guardT 139 rfl rfl ?_
              refine vc_y (y_loadA 5 rfl (cs := [_, _, _]) ag_74 rfl (Pts.visA rfl)) rfl ?_
              refine vc_guardT 139 rfl rfl ?_
              refine vc_callv ca_46 (us := []) (vs := []) rfl [_] rfl [] rfl (ref13Right_spec frm to limit) rfl ?_
              rintro _ _ ⟨rfl, rfl⟩
              refine vc_guardT 139 rfl rfl ?_
              refine vp ?_
              refine vp ?_
              refine vc_nil ?_
              refine vc_then ?_
              first | refine vc_condP rfl (fun c143 => ?_) (fun c143 => ?_) | refine vc_condN rfl (fun c143 => ?_) (fun c143 => ?_) | refine vc_cond rfl (fun c143 => ?_) (fun c143 => ?_)
              ·skip
               rw [notT c143, Bool.and_false] at hR
               cases hR
              ·skip
               refine vc_skip ?_
               refine vc_then ?_
               refine vc_seq ?_
               refine vc_region ?_
               refine vp ?_
               refine vp ?_
               refine vc_callv ca_42 (us := []) (vs := []) rfl [_, _] rfl [2, 2] rfl (step_arg (C := ⟨srcsN bx places, frm, to, limit, none, 0, row0, 0, false⟩) hn) rfl ?_
               rintro _ _ ⟨rfl, rfl⟩
               iterate 7 refine vp ?_
               refine vc_nil ?_
               refine vc_then ?_
               refine vc_seq ?_
               refine vc_seq ?_
               refine vc_region ?_
               refine vp ?_
               refine vp ?_
               refine vc_nil ?_
               refine vc_then ?_
               first | refine vc_condP rfl (fun c158 => ?_) (fun c158 => ?_) | refine vc_condN rfl (fun c158 => ?_) (fun c158 => ?_) | refine vc_cond rfl (fun c158 => ?_) (fun c158 => ?_)
               ·skip
                refine vc_seq ?_
                refine vc_region ?_
                refine vp ?_
                refine vc_y (y_len Tryz.underlying77 (h := nilS) rfl rfl) rfl ?_
                refine vp ?_
                refine vp ?_
                first | refine vc_splitP 162 rfl (fun c162 => ?_) (fun c162 => ?_) | refine vc_splitN 162 rfl (fun c162 => ?_) (fun c162 => ?_) | refine vc_split 162 rfl (fun c162 => ?_) (fun c162 => ?_)
                ·skip
                 refine vc_guardT 162 rfl rfl ?_
                 refine vp ?_
                 refine vc_guardT 162 rfl rfl ?_
                 iterate 3 refine vp ?_
                 refine vc_guardT 166 rfl rfl ?_
                 refine vp ?_
                 refine vc_guardT 166 rfl rfl ?_
                 iterate 3 refine vp ?_
                 refine vc_nil ?_
                 refine vc_then ?_
                 refine vc_ret ?_
                 refine vc_thenRet ?_
                 exact vc_end1 Tryz.results6 rfl _ (ent_pick [6] rfl) ⟨rfl, rfl⟩
                ·skip
                 exact absurd rfl c162
               ·skip
                exact absurd hn c158
        exact vo_nil
       exact vo_nil
      exact vo_nil
theorem mergeNil_step {A : HP} {h : SH} {places : List Int} (hv : Vis A (Rd eInt h places)) (hb : places.length ≤ 9223372036854775807) (n : Int) (hn2 : n ≤ 9223372036854775807) (frm to : ByteArray) (limit : Int) (x : Val) (hx : 0 ≤ x.bits ∧ x.bits ≤ 18446744073709551615) (hR : (riseP none places && rangeRight frm to limit) = true) (hn : 1 ≤ n) : Does Tryz.prog 6 [.int .i64 n, h.v, .agg #[.string frm, .string to, .int .i64 limit], .agg #[.bool x.num, .string x.text, .int .u64 x.bits]] [A] (fun v l => v = .bool true ∧ l = [A]) := by
 refine spec_of Tryz.func6 rfl Tryz.ntmps6 Tryz.results6 _ (by simp) fun ι F => ?_
 refine vc_see 0 rfl (hv.imp fun w r => r.len) (fun hlen => ?_)
 refine vc_seq ?_
 refine vc_region ?_
 refine vc_box [_, _, _] rfl rfl rfl (fun b6 => ?_)
 refine vc_box [_, _, _] rfl rfl rfl (fun b7 => ?_)
 refine vp ?_
 refine vc_nil ?_
 refine vc_then ?_
 refine vc_seq ?_
 refine vc_seq ?_
 refine vc_region ?_
 refine vc_callv ca_40 (us := []) (vs := []) rfl [] rfl [] rfl (awake13) rfl ?_
 rintro _ _ ⟨rfl, rfl⟩
 refine vp ?_
 refine vc_nil ?_
 refine vc_then ?_
 refine vc_condF rfl ?_
 refine vc_skip ?_
 refine vc_then ?_
 refine vc_seq ?_
 refine vc_seq ?_
 refine vc_region ?_
 refine vp ?_
 refine vc_y (y_len Tryz.underlying72 rfl (by first | assumption | rfl)) rfl ?_
 refine vp ?_
 refine vp ?_
 first | refine vc_splitP 30 rfl (fun c30 => ?_) (fun c30 => ?_) | refine vc_splitN 30 rfl (fun c30 => ?_) (fun c30 => ?_) | refine vc_split 30 rfl (fun c30 => ?_) (fun c30 => ?_)
 ·skip
  refine vc_guardF 30 rfl rfl rfl rfl ?_
  refine vc_guardF 30 rfl rfl rfl rfl ?_
  refine vc_guardF 30 rfl rfl rfl rfl ?_
  refine vc_guardF 30 rfl rfl rfl rfl ?_
  refine vp ?_
  refine vp ?_
  refine vc_guardF 36 rfl rfl rfl rfl ?_
  refine vc_guardF 36 rfl rfl rfl rfl ?_
  refine vc_guardF 36 rfl rfl rfl rfl ?_
  refine vc_guardF 36 rfl rfl rfl rfl ?_
  refine vp ?_
  refine vp ?_
  refine vc_guardF 42 rfl rfl rfl rfl ?_
  refine vc_guardF 42 rfl rfl rfl rfl ?_
  refine vc_guardF 42 rfl rfl rfl rfl ?_
  refine vp ?_
  refine vc_nil ?_
  refine vc_then ?_
  refine vc_condT rfl ?_
  refine vc_seq ?_
  refine vc_region ?_
  refine vp ?_
  refine vc_nil ?_
  refine vc_then ?_
  refine vc_ret ?_
  refine vc_thenRet ?_
  exact vc_end1 Tryz.results6 rfl _ (ent_pick [2] rfl) ⟨rfl, rfl⟩
 ·skip
  have hp20 : places.length ≤ 20 := by omega
  refine vc_guardT 30 rfl rfl ?_
  refine vc_y (y_fieldP fl_74_0 0 rfl rfl) rfl ?_
  refine vc_guardT 30 rfl rfl ?_
  refine vc_y (y_load1 1 rfl one_9 rfl (Pts.vis rfl)) rfl ?_
  refine vc_guardT 30 rfl rfl ?_
  refine vc_y (y_strLen Tryz.underlying9 rfl) rfl ?_
  refine vc_guardT 30 rfl rfl ?_
  iterate 3 refine vp ?_
  first | refine vc_splitP 36 rfl (fun c36 => ?_) (fun c36 => ?_) | refine vc_splitN 36 rfl (fun c36 => ?_) (fun c36 => ?_) | refine vc_split 36 rfl (fun c36 => ?_) (fun c36 => ?_)
  ·skip
   refine vc_guardF 36 rfl rfl rfl rfl ?_
   refine vc_guardF 36 rfl rfl rfl rfl ?_
   refine vc_guardF 36 rfl rfl rfl rfl ?_
   refine vc_guardF 36 rfl rfl rfl rfl ?_
   refine vp ?_
   refine vp ?_
   refine vc_guardF 42 rfl rfl rfl rfl ?_
   refine vc_guardF 42 rfl rfl rfl rfl ?_
   refine vc_guardF 42 rfl rfl rfl rfl ?_
   refine vp ?_
   refine vc_nil ?_
   refine vc_then ?_
   refine vc_condT rfl ?_
   refine vc_seq ?_
   refine vc_region ?_
   refine vp ?_
   refine vc_nil ?_
   refine vc_then ?_
   refine vc_ret ?_
   refine vc_thenRet ?_
   exact vc_end1 Tryz.results6 rfl _ (ent_pick [2] rfl) ⟨rfl, rfl⟩
  ·skip
   refine vc_guardT 36 rfl rfl ?_
   refine vc_y (y_fieldP fl_74_1 1 rfl rfl) rfl ?_
   refine vc_guardT 36 rfl rfl ?_
   refine vc_y (y_load1 1 rfl one_9 rfl (Pts.vis rfl)) rfl ?_
   refine vc_guardT 36 rfl rfl ?_
   refine vc_y (y_strLen Tryz.underlying9 rfl) rfl ?_
   refine vc_guardT 36 rfl rfl ?_
   iterate 3 refine vp ?_
   first | refine vc_splitP 42 rfl (fun c42 => ?_) (fun c42 => ?_) | refine vc_splitN 42 rfl (fun c42 => ?_) (fun c42 => ?_) | refine vc_split 42 rfl (fun c42 => ?_) (fun c42 => ?_)
   ·skip
    refine vc_guardF 42 rfl rfl rfl rfl ?_
    refine vc_guardF 42 rfl rfl rfl rfl ?_
    refine vc_guardF 42 rfl rfl rfl rfl ?_
    refine vp ?_
    refine vc_nil ?_
    refine vc_then ?_
    refine vc_condT rfl ?_
    refine vc_seq ?_
    refine vc_region ?_
    refine vp ?_
    refine vc_nil ?_
    refine vc_then ?_
    refine vc_ret ?_
    refine vc_thenRet ?_
    exact vc_end1 Tryz.results6 rfl _ (ent_pick [2] rfl) ⟨rfl, rfl⟩
   ·skip
    refine vc_guardT 42 rfl rfl ?_
    refine vc_y (y_loadA 0 rfl (cs := [_, _, _]) ag_45 rfl (Pts.visA rfl)) rfl ?_
    refine vc_guardT 42 rfl rfl ?_
    refine vc_callv ca_41 (us := []) (vs := []) rfl [_] rfl [] rfl (refVRight_spec x hx) rfl ?_
    rintro _ _ ⟨rfl, rfl⟩
    refine vc_guardT 42 rfl rfl ?_
    refine vp ?_
    refine vp ?_
    refine vc_nil ?_
    refine vc_then ?_
    first | refine vc_condP rfl (fun c46 => ?_) (fun c46 => ?_) | refine vc_condN rfl (fun c46 => ?_) (fun c46 => ?_) | refine vc_cond rfl (fun c46 => ?_) (fun c46 => ?_)
    ·skip
     refine vc_seq ?_
     refine vc_region ?_
     refine vp ?_
     refine vc_nil ?_
     refine vc_then ?_
     refine vc_ret ?_
     refine vc_thenRet ?_
     exact vc_end1 Tryz.results6 rfl _ (ent_pick [2] rfl) ⟨rfl, rfl⟩
    ·skip
     refine vc_skip ?_
     refine vc_then ?_
     refine vc_seq ?_
     refine vc_region ?_
     refine vp ?_
     refine vc_nil ?_
     refine vc_then ?_
     refine vc_seq ?_
     refine vc_region ?_
     refine vp ?_
     refine vp ?_
     refine vc_callv ca_42 (us := []) (vs := []) rfl [_, _] rfl [] rfl (step_nil n) rfl ?_
     rintro _ _ ⟨rfl, rfl⟩
     iterate 7 refine vp ?_
     refine vc_nil ?_
     refine vc_then ?_
     refine vc_seq ?_
     refine vc_region ?_
     refine vc_callv ca_43 (us := []) (vs := []) rfl [] rfl [] rfl (setting13) rfl ?_
     rintro _ _ ⟨rfl, rfl⟩
     refine vc_callv ca_11 (us := []) (vs := []) rfl [_] rfl [] rfl (new13) rfl ?_
     rintro _ _ ⟨bx, rfl, rfl⟩
     iterate 5 refine vp ?_
     refine vc_nil ?_
     refine vc_then ?_
     refine vc_seq ?_
     refine vc_region ?_
     refine vc_buildSlice (E := eSrc) [] [] rfl rfl (bs_80_0  ) rfl (fun h59 => ?_)
     refine vp ?_
     refine vc_nil ?_
     refine vc_then ?_
     refine vc_seq ?_
     refine vc_region ?_
     refine vp ?_
     refine vc_nil ?_
     refine vc_then ?_
     refine vc_seq ?_
     refine vc_seq ?_
     refine vc_region ?_
     refine vp ?_
     refine vc_nil ?_
     refine vc_then ?_
     refine vc_block ?_
     refine vc_loop (α := Nat × SH × Bool) (fun xq_ => match xq_ with | (i, hs, rs) => [(0, .int .i64 n), (1, h.v), (6, .pointer (some ⟨b6, 0, none⟩)), (9, .pointer none), (10, nilS.v), (11, .bool false), (12, .int .i64 2), (13, .pointer (some ⟨bx, 0, none⟩)), (15, hs.v), (16, .bool rs), (17, .int .i64 (i : Int))]) (fun xq_ => match xq_ with | (i, hs, rs) => [Sl eSrc hs (srcsN bx (places.take i)), RoomC bx X13, Pts b6 [.string frm, .string to, .int .i64 limit] 74, A]) (fun xq_ => match xq_ with | (i, hs, rs) => places.length - i) (fun xq_ => match xq_ with | (i, hs, rs) => i ≤ places.length ∧ riseP none places = (rs && riseP (lastI places i) (places.drop i))) (0, h59, true) ⟨Nat.zero_le _, rfl⟩ ⟨rfl, rfl, rfl, rfl, rfl, rfl, rfl, rfl, rfl, rfl, rfl, trivial⟩ (ent_pick [0, 0, 1, 1] rfl) ?_
     rintro ⟨i, hs, rs⟩ ⟨hi, hrs⟩
     show VC _ _ _ _ [(0, .int .i64 n), (1, h.v), (6, .pointer (some ⟨b6, 0, none⟩)), (9, .pointer none), (10, nilS.v), (11, .bool false), (12, .int .i64 2), (13, .pointer (some ⟨bx, 0, none⟩)), (15, hs.v), (16, .bool rs), (17, .int .i64 (i : Int))] ([Sl eSrc hs (srcsN bx (places.take i)), RoomC bx X13, Pts b6 [.string frm, .string to, .int .i64 limit] 74, A])
     refine vc_seq ?_
     refine vc_seq ?_
     refine vc_region ?_
     refine vp ?_
     refine vp ?_
     refine vc_y (y_len Tryz.underlying72 rfl (by first | assumption | rfl)) rfl ?_
     refine vp ?_
     refine vc_nil ?_
     refine vc_then ?_
     first | refine vc_condP rfl (fun c63 => ?_) (fun c63 => ?_) | refine vc_condN rfl (fun c63 => ?_) (fun c63 => ?_) | refine vc_cond rfl (fun c63 => ?_) (fun c63 => ?_)
     ·skip
      have hi2 : i < places.length := by omega
      refine vc_skip ?_
      refine vc_then ?_
      refine vc_seq ?_
      refine vc_block ?_
      refine vc_seq ?_
      refine vc_region ?_
      iterate 4 refine vp ?_
      refine vc_y (y_elem 3 rfl (hv) i rfl hi2 sl_72 rfl rfl) rfl ?_
      refine vc_y (y_load1 3 rfl one_3 rfl (Rd.vis1 (hv) (List.getElem?_eq_getElem hi2) rfl)) rfl ?_
      refine vc_y (y_build [(0, _), (2, _)] [_, _, _] rfl (bu_82_0_2 _ _ rfl rfl)) rfl ?_
      refine vc_buildSlice (E := eSrc) [(0, _)] [⟨some bx, 0, places[i]⟩] rfl rfl (bs_80_1 _ _ _ ) rfl (fun h73 => ?_)
      refine vc_append 1 rfl 0 rfl (Sl.vis) el_80_eSrc Tryz.underlying80 rfl rfl (by simp [srcsN]; omega) (by simp [srcsN]; omega) rfl (fun h74 => ?_)
      refine vc_re 1 rfl (congrArg (Sl eSrc h74) (srcsN_succ bx hi2).symm) ?_
      refine vp ?_
      refine vc_nil ?_
      refine vc_then ?_
      refine vc_draw (by kernel_rfl) _ none [4] rfl ?_
      refine tpp 0 ?_
      refine tpp 1 ?_
      first | refine va_splitP 76 rfl (fun c76 => ?_) (fun c76 => ?_) | refine va_splitN 76 rfl (fun c76 => ?_) (fun c76 => ?_) | refine va_split 76 rfl (fun c76 => ?_) (fun c76 => ?_)
      ·skip
       refine tgp 2 76 ?_
       refine tgp 3 76 ?_
       refine tkg 4 76 rfl (by exact y_elem 0 rfl (hv) i rfl hi2 sl_72 rfl rfl) ?_
       refine tkg 5 76 rfl (by exact y_load1 0 rfl one_3 rfl (Rd.vis1 (hv) (List.getElem?_eq_getElem hi2) rfl)) ?_
       refine tgp 6 76 ?_
       refine tpp 7 ?_
       refine tpp 8 ?_
       first | refine va_splitP 83 rfl (fun c83 => ?_) (fun c83 => ?_) | refine va_splitN 83 rfl (fun c83 => ?_) (fun c83 => ?_) | refine va_split 83 rfl (fun c83 => ?_) (fun c83 => ?_)
       ·skip
        refine tgp 9 83 ?_
        refine tgp 10 83 ?_
        refine tgp 11 83 ?_
        first | refine va_splitP 86 rfl (fun c86 => ?_) (fun c86 => ?_) | refine va_splitN 86 rfl (fun c86 => ?_) (fun c86 => ?_) | refine va_split 86 rfl (fun c86 => ?_) (fun c86 => ?_)
        ·skip
         have hls : lastI places i = none := by
          obtain rfl := (show i = 0 by omega)
          rfl
         refine sk 12 86 ?_
         refine sk 13 86 ?_
         refine sk 14 86 ?_
         refine sk 15 86 ?_
         refine sk 16 86 ?_
         refine sk 17 86 ?_
         refine sk 18 86 ?_
         refine sk 19 86 ?_
         refine sk 20 86 ?_
         refine sk 21 86 ?_
         refine tgp 22 83 ?_
         refine tpp 23 ?_
         refine tpp 24 ?_
         refine va_done (by kernel_rfl) ?_
         refine vc_inNormal ?_
         refine vc_then ?_
         refine vc_region ?_
         refine vc_keep [(0, .int .i64 n), (1, h.v), (6, .pointer (some ⟨b6, 0, none⟩)), (9, .pointer none), (10, nilS.v), (11, .bool false), (12, .int .i64 2), (13, .pointer (some ⟨bx, 0, none⟩)), (15, h74.v), (16, .bool (stepP places i rs hi2)), (17, .int .i64 (i : Int))] ⟨rfl, rfl, rfl, rfl, rfl, rfl, rfl, rfl, rfl, by first | (simp only [stepP, c76]; rfl) | (simp only [stepP, c76, c83, hls, prevLt]; rfl) | (simp only [stepP, c76, decide_eq_false c83]; rfl) | (simp only [stepP, c76, c83, hls, prevLt]; simp [*]), rfl, trivial⟩ ?_
         refine vp ?_
         first | refine vc_y (y_arith _ rfl (wrapNadd (by omega))) rfl ?_ | refine vc_y (y_arith _ rfl (wrap64 (by omega) (by omega))) rfl ?_ | refine vp ?_
         refine vp ?_
         refine vc_nil ?_
         refine vc_then ?_
         exact vc_again (x := (i, hs, rs)) (i + 1, h74, stepP places i rs hi2) ⟨hi2, stepP_ok hi2 hrs⟩ (by show places.length - (i + 1) < places.length - i; omega) ⟨rfl, rfl, rfl, rfl, rfl, rfl, rfl, rfl, rfl, rfl, rfl, trivial⟩ (ent_pick [1, 1, 1, 1] rfl)
        ·skip
         have hls := lastI_pos (l := places) (i := i) (by omega) (by omega)
         refine tgp 12 86 ?_
         refine tgp 13 86 ?_
         first | refine tg 14 86 rfl (by exact y_arith _ rfl (wrapNsub (by omega))) ?_ | refine tg 14 86 rfl (by exact y_arith _ rfl (wrap64 (by omega) (by omega))) ?_ | refine tgp 14 86 ?_
         refine tkg 15 86 rfl (by exact y_elem 0 rfl (hv) (i - 1) rfl (by omega) sl_72 rfl rfl) ?_
         refine tkg 16 86 rfl (by exact y_load1 0 rfl one_3 rfl (Rd.vis1 (hv) (List.getElem?_eq_getElem (by omega)) rfl)) ?_
         refine tgp 17 86 ?_
         refine tgp 18 86 ?_
         refine tkg 19 86 rfl (by exact y_elem 0 rfl (hv) i rfl hi2 sl_72 rfl rfl) ?_
         refine tkg 20 86 rfl (by exact y_load1 0 rfl one_3 rfl (Rd.vis1 (hv) (List.getElem?_eq_getElem hi2) rfl)) ?_
         refine tgp 21 86 ?_
         refine tgp 22 83 ?_
         refine tpp 23 ?_
         refine tpp 24 ?_
         refine va_done (by kernel_rfl) ?_
         refine vc_inNormal ?_
         refine vc_then ?_
         refine vc_region ?_
         refine vc_keep [(0, .int .i64 n), (1, h.v), (6, .pointer (some ⟨b6, 0, none⟩)), (9, .pointer none), (10, nilS.v), (11, .bool false), (12, .int .i64 2), (13, .pointer (some ⟨bx, 0, none⟩)), (15, h74.v), (16, .bool (stepP places i rs hi2)), (17, .int .i64 (i : Int))] ⟨rfl, rfl, rfl, rfl, rfl, rfl, rfl, rfl, rfl, by first | (simp only [stepP, c76]; rfl) | (simp only [stepP, c76, c83, hls, prevLt]; rfl) | (simp only [stepP, c76, decide_eq_false c83]; rfl) | (simp only [stepP, c76, c83, hls, prevLt]; simp [*]), rfl, trivial⟩ ?_
         refine vp ?_
         first | refine vc_y (y_arith _ rfl (wrapNadd (by omega))) rfl ?_ | refine vc_y (y_arith _ rfl (wrap64 (by omega) (by omega))) rfl ?_ | refine vp ?_
         refine vp ?_
         refine vc_nil ?_
         refine vc_then ?_
         exact vc_again (x := (i, hs, rs)) (i + 1, h74, stepP places i rs hi2) ⟨hi2, stepP_ok hi2 hrs⟩ (by show places.length - (i + 1) < places.length - i; omega) ⟨rfl, rfl, rfl, rfl, rfl, rfl, rfl, rfl, rfl, rfl, rfl, trivial⟩ (ent_pick [1, 1, 1, 1] rfl)
       ·skip
        refine sk 9 83 ?_
        refine sk 10 83 ?_
        refine sk 11 83 ?_
        refine sku 12 86 ?_
        refine sku 13 86 ?_
        refine sku 14 86 ?_
        refine sku 15 86 ?_
        refine sku 16 86 ?_
        refine sku 17 86 ?_
        refine sku 18 86 ?_
        refine sku 19 86 ?_
        refine sku 20 86 ?_
        refine sku 21 86 ?_
        refine sk 22 83 ?_
        refine tpp 23 ?_
        refine tpp 24 ?_
        refine va_done (by kernel_rfl) ?_
        refine vc_inNormal ?_
        refine vc_then ?_
        refine vc_region ?_
        refine vc_keep [(0, .int .i64 n), (1, h.v), (6, .pointer (some ⟨b6, 0, none⟩)), (9, .pointer none), (10, nilS.v), (11, .bool false), (12, .int .i64 2), (13, .pointer (some ⟨bx, 0, none⟩)), (15, h74.v), (16, .bool (stepP places i rs hi2)), (17, .int .i64 (i : Int))] ⟨rfl, rfl, rfl, rfl, rfl, rfl, rfl, rfl, rfl, by first | (simp only [stepP, c76]; rfl) | (simp only [stepP, c76, c83, hls, prevLt]; rfl) | (simp only [stepP, c76, decide_eq_false c83]; rfl) | (simp only [stepP, c76, c83, hls, prevLt]; simp [*]), rfl, trivial⟩ ?_
        refine vp ?_
        first | refine vc_y (y_arith _ rfl (wrapNadd (by omega))) rfl ?_ | refine vc_y (y_arith _ rfl (wrap64 (by omega) (by omega))) rfl ?_ | refine vp ?_
        refine vp ?_
        refine vc_nil ?_
        refine vc_then ?_
        exact vc_again (x := (i, hs, rs)) (i + 1, h74, stepP places i rs hi2) ⟨hi2, stepP_ok hi2 hrs⟩ (by show places.length - (i + 1) < places.length - i; omega) ⟨rfl, rfl, rfl, rfl, rfl, rfl, rfl, rfl, rfl, rfl, rfl, trivial⟩ (ent_pick [1, 1, 1, 1] rfl)
      ·skip
       refine sk 2 76 ?_
       refine sk 3 76 ?_
       refine sk 4 76 ?_
       refine sk 5 76 ?_
       refine sk 6 76 ?_
       refine tpp 7 ?_
       refine tpp 8 ?_
       refine sk 9 83 ?_
       refine sk 10 83 ?_
       refine sk 11 83 ?_
       refine sku 12 86 ?_
       refine sku 13 86 ?_
       refine sku 14 86 ?_
       refine sku 15 86 ?_
       refine sku 16 86 ?_
       refine sku 17 86 ?_
       refine sku 18 86 ?_
       refine sku 19 86 ?_
       refine sku 20 86 ?_
       refine sku 21 86 ?_
       refine sk 22 83 ?_
       refine tpp 23 ?_
       refine tpp 24 ?_
       refine va_done (by kernel_rfl) ?_
       refine vc_inNormal ?_
       refine vc_then ?_
       refine vc_region ?_
       refine vc_keep [(0, .int .i64 n), (1, h.v), (6, .pointer (some ⟨b6, 0, none⟩)), (9, .pointer none), (10, nilS.v), (11, .bool false), (12, .int .i64 2), (13, .pointer (some ⟨bx, 0, none⟩)), (15, h74.v), (16, .bool (stepP places i rs hi2)), (17, .int .i64 (i : Int))] ⟨rfl, rfl, rfl, rfl, rfl, rfl, rfl, rfl, rfl, by first | (simp only [stepP, c76]; rfl) | (simp only [stepP, c76, c83, hls, prevLt]; rfl) | (simp only [stepP, c76, decide_eq_false c83]; rfl) | (simp only [stepP, c76, c83, hls, prevLt]; simp [*]), rfl, trivial⟩ ?_
       refine vp ?_
       first | refine vc_y (y_arith _ rfl (wrapNadd (by omega))) rfl ?_ | refine vc_y (y_arith _ rfl (wrap64 (by omega) (by omega))) rfl ?_ | refine vp ?_
       refine vp ?_
       refine vc_nil ?_
       refine vc_then ?_
       exact vc_again (x := (i, hs, rs)) (i + 1, h74, stepP places i rs hi2) ⟨hi2, stepP_ok hi2 hrs⟩ (by show places.length - (i + 1) < places.length - i; omega) ⟨rfl, rfl, rfl, rfl, rfl, rfl, rfl, rfl, rfl, rfl, rfl, trivial⟩ (ent_pick [1, 1, 1, 1] rfl)
     ·skip
      obtain rfl : i = places.length := by omega
      rw [List.drop_length] at hrs
      rw [List.take_length]
      have hrs2 : riseP none places = rs := by rw [hrs]; exact Bool.and_true rs
      refine vc_exit ?_
      refine vc_thenExit ?_
      refine vc_thenExit ?_
      refine vc_inExit ?_
      refine vc_then ?_
      refine vc_seq ?_
      refine vc_region ?_
      refine vp ?_
      refine vc_y (y_loadA 2 rfl (cs := [_, _, _]) ag_74 rfl (Pts.visA rfl)) rfl ?_
      refine vc_callv ca_44 (us := []) (vs := []) rfl [_, _, _, _] rfl [0] rfl (mopen_ok (xs := srcsN bx places) Sl.vis (by simp [srcsN]; omega) frm to limit none 0 (srcsN_nil bx places) (by rw [riseP_eq]; exact hR)) rfl ?_
      rintro _ _ ⟨bc, hl, rfl, rfl⟩
      iterate 5 refine vp ?_
      refine vc_nil ?_
      refine vc_then ?_
      refine vc_seq ?_
      refine vc_draw (by kernel_rfl) _ none [4] rfl ?_
      refine tpp 0 ?_
      refine tp 1 rfl (by exact y_build [] [_, _, _] rfl (bu_82_n  )) ?_
      refine tk 4 rfl (by exact y_loadA 0 rfl (cs := [_, _, _]) ag_74 rfl (Pts.visA rfl)) ?_
      refine va_ready [2] (by kernel_rfl) rfl ?_
      refine vo_cons rfl (fun hC0 => ?_) ?_
      ·skip
       refine vc_buildSlice (E := eSrc) [(0, _)] [⟨none, 0, 0⟩] rfl rfl (bs_80_1 _ _ _ ) rfl (fun h108 => ?_)
       refine vc_nil ?_
       refine vc_then ?_
       refine va_kept hC0 [5] rfl ?_
       clear hC0
       refine va_ready [3] (by kernel_rfl) rfl ?_
       refine vo_cons rfl (fun hC0 => ?_) ?_
       ·skip
        refine vc_append 3 rfl 0 rfl (Sl.vis) el_80_eSrc Tryz.underlying80 rfl rfl (by simp [srcsN]; omega) (by simp [srcsN]; omega) rfl (fun h109 => ?_)
        refine vc_nil ?_
        refine vc_then ?_
        refine va_kept hC0 [5] rfl ?_
        clear hC0
        refine va_ready [5] (by kernel_rfl) rfl ?_
        refine vo_cons rfl (fun hC0 => ?_) ?_
        ·skip
         refine vc_callv ca_44 (us := []) (vs := []) rfl [_, _, _, _] rfl [3] rfl (mopen_nil (xs := srcsN bx places ++ [(⟨none, 0, 0⟩ : SrcV)]) (h := h109) Sl.vis (by simp [srcsN]; omega) frm to limit none 0 ⟨(⟨none, 0, 0⟩ : SrcV), by simp, rfl⟩) rfl ?_
         rintro _ _ ⟨rfl, rfl⟩
         refine vc_nil ?_
         refine vc_then ?_
         refine va_kept hC0 [5] rfl ?_
         clear hC0
         refine tpp 6 ?_
         refine tpp 7 ?_
         refine tpp 8 ?_
         refine tpp 9 ?_
         refine tpp 10 ?_
         refine va_done (by kernel_rfl) ?_
         refine vc_then ?_
         refine vc_seq ?_
         refine vc_seq ?_
         refine vc_region ?_
         refine vp ?_
         refine vc_y (y_len Tryz.underlying77 (h := nilS) rfl rfl) rfl ?_
         refine vp ?_
         refine vp ?_
         first | refine vc_splitP 117 rfl (fun c117 => ?_) (fun c117 => ?_) | refine vc_splitN 117 rfl (fun c117 => ?_) (fun c117 => ?_) | refine vc_split 117 rfl (fun c117 => ?_) (fun c117 => ?_)
         ·skip
          exact absurd rfl c117
         ·skip
          refine vc_guardT 117 rfl rfl ?_
          iterate 3 refine vp ?_
          refine vc_guardT 120 rfl rfl ?_
          refine vp ?_
          refine vc_guardT 120 rfl rfl ?_
          iterate 3 refine vp ?_
          first | refine vc_splitP 124 rfl (fun c124 => ?_) (fun c124 => ?_) | refine vc_splitN 124 rfl (fun c124 => ?_) (fun c124 => ?_) | refine vc_split 124 rfl (fun c124 => ?_) (fun c124 => ?_)
          ·skip
           simp at c124
          ·skip
           refine vc_guardT 124 rfl rfl ?_
           refine vp ?_
           refine vc_guardT 124 rfl rfl ?_
           refine vc_callv ca_45 (us := []) (vs := []) rfl [_] rfl [] rfl (told_nil) rfl ?_
           rintro _ _ ⟨rfl, rfl⟩
           refine vc_guardT 124 rfl rfl ?_
           iterate 3 refine vp ?_
           first | refine vc_splitP 129 rfl (fun c129 => ?_) (fun c129 => ?_) | refine vc_splitN 129 rfl (fun c129 => ?_) (fun c129 => ?_) | refine vc_split 129 rfl (fun c129 => ?_) (fun c129 => ?_)
           ·skip
            simp at c129
           ·skip
            refine vc_guardT 129 rfl rfl ?_
            refine vp ?_
            refine vc_guardT 129 rfl rfl ?_
            refine vc_y (y_neNil ep_76 rfl rfl) rfl ?_
            refine vp ?_
            refine vp ?_
            refine vc_guardT 133 rfl rfl ?_
            refine vp ?_
            refine vc_guardT 133 rfl rfl ?_
            refine vp ?_
            refine vp ?_
            refine vc_nil ?_
            refine vc_then ?_
            first | refine vc_condP rfl (fun c136 => ?_) (fun c136 => ?_) | refine vc_condN rfl (fun c136 => ?_) (fun c136 => ?_) | refine vc_cond rfl (fun c136 => ?_) (fun c136 => ?_)
            ·skip
             simp at c136
            ·skip
             refine vc_skip ?_
             refine vc_then ?_
             refine vc_seq ?_
             refine vc_seq ?_
             refine vc_region ?_
             iterate 3 refine vp ?_
             first | refine vc_splitP 139 rfl (fun c139 => ?_) (fun c139 => ?_) | refine vc_splitN 139 rfl (fun c139 => ?_) (fun c139 => ?_) | refine vc_split 139 rfl (fun c139 => ?_) (fun c139 => ?_)
             ·skip
              rw [hrs2, notT c139] at hR
              cases hR
             ·skip
              refine vc_guardT 139 rfl rfl ?_
              refine vc_y (y_loadA 5 rfl (cs := [_, _, _]) ag_74 rfl (Pts.visA rfl)) rfl ?_
              refine vc_guardT 139 rfl rfl ?_
              refine vc_callv ca_46 (us := []) (vs := []) rfl [_] rfl [] rfl (ref13Right_spec frm to limit) rfl ?_
              rintro _ _ ⟨rfl, rfl⟩
              refine vc_guardT 139 rfl rfl ?_
              refine vp ?_
              refine vp ?_
              refine vc_nil ?_
              refine vc_then ?_
              first | refine vc_condP rfl (fun c143 => ?_) (fun c143 => ?_) | refine vc_condN rfl (fun c143 => ?_) (fun c143 => ?_) | refine vc_cond rfl (fun c143 => ?_) (fun c143 => ?_)
              ·skip
               rw [notT c143, Bool.and_false] at hR
               cases hR
              ·skip
               refine vc_skip ?_
               refine vc_then ?_
               refine vc_seq ?_
               refine vc_region ?_
               have hli : 1 ≤ limit ∧ limit ≤ 64 := by
                simp only [rangeRight, Bool.and_eq_true, decide_eq_true_eq] at hR
                exact hR.2.1
               refine vc_ent (l' := emp :: _) Ent.empL ?_
               refine vp ?_
               refine vp ?_
               refine vc_callv ca_42 (us := []) (vs := []) rfl [_, _] rfl [3, 3, 0, 2] rfl (step_spec (C := ⟨srcsN bx places, frm, to, limit, none, 0, row0, 0, false⟩) own_nil0 (src0_ok bx places) mu_nil0 ⟨hli.1, hli.2, by simp, by simp only []; omega, fun _ => by simp only []; omega, by simp [srcsN]; omega⟩ hn hn2) rfl ?_
               rintro _ _ ⟨hr, rfl, rfl⟩
               rw [step0 hn rfl]
               iterate 7 refine vp ?_
               refine vc_nil ?_
               refine vc_then ?_
               refine vc_seq ?_
               refine vc_seq ?_
               refine vc_region ?_
               refine vp ?_
               refine vp ?_
               refine vc_nil ?_
               refine vc_then ?_
               first | refine vc_condP rfl (fun c158 => ?_) (fun c158 => ?_) | refine vc_condN rfl (fun c158 => ?_) (fun c158 => ?_) | refine vc_cond rfl (fun c158 => ?_) (fun c158 => ?_)
               ·skip
                exact absurd c158 (by omega)
               ·skip
                refine vc_skip ?_
                refine vc_then ?_
                refine vc_seq ?_
                refine vc_region ?_
                refine vc_see 0 rfl (Sl.vis.imp fun w r => r.len) (fun hrl => ?_)
                iterate 3 refine vp ?_
                first | refine vc_splitP 172 rfl (fun c172 => ?_) (fun c172 => ?_) | refine vc_splitN 172 rfl (fun c172 => ?_) (fun c172 => ?_) | refine vc_split 172 rfl (fun c172 => ?_) (fun c172 => ?_)
                ·skip
                 refine vc_guardT 172 rfl rfl ?_
                 refine vp ?_
                 refine vc_guardT 172 rfl rfl ?_
                 refine vc_y (y_len Tryz.underlying77 rfl hrl) rfl ?_
                 refine vc_guardT 172 rfl rfl ?_
                 iterate 3 refine vp ?_
                 first | refine vc_splitP 177 rfl (fun c177 => ?_) (fun c177 => ?_) | refine vc_splitN 177 rfl (fun c177 => ?_) (fun c177 => ?_) | refine vc_split 177 rfl (fun c177 => ?_) (fun c177 => ?_)
                 ·skip
                  refine vc_guardT 177 rfl rfl ?_
                  iterate 3 refine vp ?_
                  refine vc_guardT 180 rfl rfl ?_
                  refine vp ?_
                  refine vc_guardT 180 rfl rfl ?_
                  iterate 3 refine vp ?_
                  refine vc_nil ?_
                  refine vc_then ?_
                  refine vc_ret ?_
                  exact vc_end1 Tryz.results6 rfl _ (ent_pick [8] rfl) ⟨rfl, rfl⟩
                 ·skip
                  simp at c177
                ·skip
                 simp at c172
        exact vo_nil
       exact vo_nil
      exact vo_nil
theorem mergeNil_law {A : HP} {h : SH} {places : List Int} (hv : Vis A (Rd eInt h places)) (hb : places.length ≤ 9223372036854775807) (n : Int) (hn2 : n ≤ 9223372036854775807) (frm to : ByteArray) (limit : Int) (x : Val) (hx : 0 ≤ x.bits ∧ x.bits ≤ 18446744073709551615) :
  Does Tryz.prog 6 [.int .i64 n, h.v, .agg #[.string frm, .string to, .int .i64 limit], .agg #[.bool x.num, .string x.text, .int .u64 x.bits]] [A] (fun v l => v = .bool true ∧ l = [A]) := by
 cases hR : (riseP none places && rangeRight frm to limit) with
 | false => exact mergeNil_bad hv hb n hn2 frm to limit x hx hR
 | true =>
  by_cases hn : n < 1
  ·exact mergeNil_arg hv hb n hn2 frm to limit x hx hR hn
  ·exact mergeNil_step hv hb n hn2 frm to limit x hx hR (by omega)
end Go.Proofs.YtcpbibdbahfgaaaGreat
