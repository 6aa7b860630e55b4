/-
 Labels, rings.
-/
import Derived.Test.YtcpbibdbahfgaaaGreatSw3
import Derived.Test.YtcpbibdbahfgaaaGreatSw2
set_option linter.unusedVariables false
set_option linter.unusedSimpArgs false
set_option autoImplicit false
set_option maxHeartbeats 4000000
namespace Go.Proofs.YtcpbibdbahfgaaaGreat
open Go.Eng
namespace FRing
theorem ca_84 : Callable Tryz.prog 84 := ⟨_, _, Tryz.func84, rfl, rfl⟩
theorem sl_22 : TySl Tryz.prog 22 34 1 := ⟨Tryz.underlying22, by kernel_rfl⟩
theorem one_34 : TyOne Tryz.prog 34 := ⟨⟨_, Tryz.underlying34, rfl⟩, by kernel_rfl⟩
theorem fl_190_3 : Fld Tryz.prog 190 3 3 := ⟨_, _, 0, Tryz.underlying190, rfl, rfl, by kernel_rfl⟩
theorem one_22 : TyOne Tryz.prog 22 := ⟨⟨_, Tryz.underlying22, rfl⟩, by kernel_rfl⟩
theorem ep_128 : Tryz.prog.underlying 128 = some (.pointer (Tryz.prog.pointee 128)) := by kernel_rfl
theorem fl_190_2 : Fld Tryz.prog 190 2 2 := ⟨_, _, 0, Tryz.underlying190, rfl, rfl, by kernel_rfl⟩
theorem one_3 : TyOne Tryz.prog 3 := ⟨⟨_, Tryz.underlying3, rfl⟩, by kernel_rfl⟩
theorem fl_190_0 : Fld Tryz.prog 190 0 0 := ⟨_, _, 0, Tryz.underlying190, rfl, rfl, by kernel_rfl⟩
theorem fl_190_1 : Fld Tryz.prog 190 1 1 := ⟨_, _, 0, Tryz.underlying190, rfl, rfl, by kernel_rfl⟩
theorem ca_121 : Callable Tryz.prog 121 := ⟨_, _, Tryz.func121, rfl, rfl⟩
theorem sz_3 : (Tryz.prog.info? 3).map (·.size) = some 1 := by kernel_rfl
theorem sz_34 : (Tryz.prog.info? 34).map (·.size) = some 1 := by kernel_rfl
theorem ze_34 : (Tryz.prog.info? 34).map (·.zero) = some (some (.int .u64 0)) := by kernel_rfl
theorem bs_22_1 (v0 : Value) (h0 : v0.cells = #[v0]) (w : World) : (Instr.buildSlice 22 1 #[(0, v0)]).run Tryz.prog w = .ok (.slice (some ⟨w.heap.size, 0, none⟩) 1 1) { w with heap := w.heap.push (.cells #[v0] 34 (0, 0)) } :=
 Go.Eng.run_buildSlice Tryz.underlying22 sz_34 ze_34 (by decide) (by rw [show Array.range (1 * 1) = #[0] from by decide]; simp [Instr.fill, cells_agg, h0]) w
theorem el_22_eU64 : TyEl Tryz.prog 22 eU64 8 := ⟨Tryz.underlying22, .int .u64 0, by kernel_rfl, rfl⟩
theorem sz_22 : (Tryz.prog.info? 22).map (·.size) = some 1 := by kernel_rfl
theorem ca_122 : Callable Tryz.prog 122 := ⟨_, _, Tryz.func122, rfl, rfl⟩
theorem ca_200 : Callable Tryz.prog 200 := ⟨_, _, Tryz.func200, rfl, rfl⟩
theorem ca_173 : Callable Tryz.prog 173 := ⟨_, _, Tryz.func173, rfl, rfl⟩
theorem ca_174 : Callable Tryz.prog 174 := ⟨_, _, Tryz.func174, rfl, rfl⟩
theorem ca_137 : Callable Tryz.prog 137 := ⟨_, _, Tryz.func137, rfl, rfl⟩
theorem ca_80 : Callable Tryz.prog 80 := ⟨_, _, Tryz.func80, rfl, rfl⟩
theorem ze_190 : (Tryz.prog.info? 190).map (·.zero) = some (some (.agg #[.int .i64 0, .int .i64 0, .int .i64 0, .slice none 0 0])) := by kernel_rfl
theorem bu_190_0_1_2 (v0 : Value) (v1 : Value) (v2 : Value) (h0 : v0.cells = #[v0]) (h1 : v1.cells = #[v1]) (h2 : v2.cells = #[v2]) (w : World) : (Instr.build 190 #[(0, v0), (1, v1), (2, v2)]).run Tryz.prog w = .ok (.agg #[v0, v1, v2, .slice none 0 0]) w := by
 have hz := @ze_190
 exact Go.Eng.run_build (pl := [(0, 1), (1, 1), (2, 1), (3, 1)]) hz Tryz.underlying190 (by kernel_rfl) rfl (by simp [Instr.fill, h0, h1, h2, cells_agg]) w
end FRing
open FRing
def RiseI : List Int → Prop
 | [] => True
 | a :: l => (∀ b ∈ l, a < b) ∧ RiseI l
def lbI : List Int → Int → Nat
 | [], _ => 0
 | a :: l, k => if a < k then lbI l k + 1 else 0
def leI : List Int → Int → Nat
 | [], _ => 0
 | a :: l, k => if a ≤ k then leI l k + 1 else 0
def fndI (l : List Int) (k : Int) : Bool := match l[lbI l k]? with
 | some x => decide (x = k)
 | none => false
theorem lbI_le : ∀ (l : List Int) (k : Int), lbI l k ≤ l.length
 | [], _ => Nat.le_refl _
 | v :: r, s => by
  simp only [lbI]
  have := lbI_le r s
  split <;> simp only [List.length_cons] <;> omega
theorem lbI_iff : ∀ {l : List Int} (hr : RiseI l) (k : Int) {i : Nat} (hi : i < l.length), l[i] < k ↔ i < lbI l k
 | [], _, _, i, hi => by simp at hi
 | v :: r, h, s, i, hi => by
  simp only [lbI]
  cases i with
  | zero =>
   simp only [List.getElem_cons_zero]
   split <;> simp_all
  | succ i =>
   have hi' : i < r.length := by simpa using hi
   have ih := lbI_iff h.2 s hi'
   simp only [List.getElem_cons_succ]
   by_cases hv : v < s
   ·rw [if_pos hv, ih]; omega
   ·rw [if_neg hv]
    have := h.1 _ (List.getElem_mem hi')
    constructor
    ·intro; omega
    ·intro; omega
theorem leI_eq : ∀ {l : List Int} (h : RiseI l) (s : Int), leI l s = if fndI l s = true then lbI l s + 1 else lbI l s
 | [], _, _ => rfl
 | v :: r, h, s => by
  have ih := leI_eq h.2 s
  by_cases h1 : v < s
  ·have e1 : lbI (v :: r) s = lbI r s + 1 := by simp [lbI, h1]
   have e2 : fndI (v :: r) s = fndI r s := by simp [fndI, e1]
   have e3 : leI (v :: r) s = leI r s + 1 := by simp only [leI]; rw [if_pos (by omega)]
   rw [e1, e2, e3, ih]
   split <;> rfl
  ·have e1 : lbI (v :: r) s = 0 := by simp [lbI, h1]
   have e2 : fndI (v :: r) s = decide (v = s) := by simp [fndI, e1]
   rw [e1, e2]
   by_cases h2 : v = s
   ·have : leI r s = 0 := by
     cases r with
     | nil => rfl
     | cons x r =>
      have := h.1 x (by simp)
      simp only [leI]
      rw [if_neg (by omega)]
    simp only [leI, this]
    rw [if_pos (by omega), if_pos (by simp [h2])]
   ·simp only [leI]
    rw [if_neg (by omega), if_neg (by simp [h2])]
theorem leI_le : ∀ (l : List Int) (k : Int), leI l k ≤ l.length
 | [], _ => Nat.le_refl _
 | v :: r, s => by
  simp only [leI]
  have := leI_le r s
  split <;> simp only [List.length_cons] <;> omega
structure RR where
 size : Int
 begin : Int
 seq : Int
 stamps : List Int
structure RR.ok (R : RR) : Prop where
 s1 : 1 ≤ R.size
 s2 : R.size ≤ 16
 b0 : 0 ≤ R.begin
 b1 : R.begin ≤ R.seq
 q : R.seq ≤ 1073741824
 len : (R.stamps.length : Int) ≤ R.size
 len2 : (R.stamps.length : Int) ≤ R.seq - R.begin
 rise : RiseI R.stamps
def lastS (l : List Int) : Int := match l[l.length - 1]? with
 | some v => v
 | none => 0
def RR.floor (R : RR) : Int := max (R.seq - R.size + 1) R.begin
def pushR (R : RR) (s : Int) : Int × Int × RR := if s ≤ lastS R.stamps then (0, 1, R) else if 1073741824 ≤ R.seq then (0, 17, R) else (R.seq + 1, 0, ⟨R.size, R.begin, R.seq + 1, (R.stamps ++ [s]).drop (R.stamps.length + 1 - R.size.toNat)⟩)
def asOfR (R : RR) (s : Int) : Int × Int := if R.seq - R.stamps.length + (leI R.stamps s : Int) < R.floor then (0, 14) else (R.seq - R.stamps.length + (leI R.stamps s : Int), 0)
def RO (b : Nat) (R : RR) (hs : SH) : List HP := [Pts b [.int .i64 R.size, .int .i64 R.begin, .int .i64 R.seq, hs.v] 190, Sl eU64 hs R.stamps]
def RingC (b : Nat) (R : RR) : HP := ex fun hs => seps (RO b R hs)
theorem ent_RO {b : Nat} {R : RR} (hs : SH) {r : List HP} : Ent (seps (RO b R hs ++ r)) (seps (RingC b R :: r)) :=
 Ent.append.trans (ent_ex (f := fun hs => seps (RO b R hs)) hs)
theorem ring_does {f : FuncId} {args : List Value} {b : Nat} {R R' : RR} {Q : Value → Prop} (h : ∀ hs, Does Tryz.prog f args (RO b R hs) (fun v l => Q v ∧ ∃ hs', l = RO b R' hs')) : Does Tryz.prog f args [RingC b R] (fun v l => Q v ∧ l = [RingC b R']) := by
 refine Does.ex1 fun hs => Does.pre Ent.left (Does.fin (h hs) ?_)
 rintro v l ⟨hq, hs', rfl⟩
 exact ⟨[RingC b R'], by have := ent_RO (b := b) (R := R') hs' (r := []); rwa [List.append_nil] at this, hq, rfl⟩
def tagFrom : Int → List Int → Bool
 | _, [] => true
 | last, t :: r => decide (last < t) && tagFrom t r
def labelRight (l : List Int) : Bool := decide ((l.length : Int) ≤ 6) && tagFrom 0 l
def lastT (l : List Int) : Nat → Int
 | 0 => 0
 | i + 1 => match l[i]? with
  | some v => v
  | none => 0
theorem lastT_succ {l : List Int} {i : Nat} (h : i < l.length) : lastT l (i + 1) = l[i] := by simp [lastT, List.getElem?_eq_getElem h]
theorem within_spec (a lo hi : Int) : Does Tryz.prog 84 [.int .i64 a, .int .i64 lo, .int .i64 hi] [] (fun v l => v = .bool (decide (lo ≤ a) && decide (a ≤ hi)) ∧ l = []) := by
 refine spec_of Tryz.func84 rfl Tryz.ntmps84 Tryz.results84 _ (by simp) fun ι F => ?_
 refine vc_seq ?_
 refine vc_region ?_
 refine vp ?_
 refine vc_nil ?_
 refine vc_then ?_
 refine vc_seq ?_
 refine vc_region ?_
 iterate 4 refine vp ?_
 first | refine vc_splitP 10 rfl (fun c10 => ?_) (fun c10 => ?_) | refine vc_splitN 10 rfl (fun c10 => ?_) (fun c10 => ?_) | refine vc_split 10 rfl (fun c10 => ?_) (fun c10 => ?_)
 ·skip
  refine vc_guardT 10 rfl rfl ?_
  refine vp ?_
  refine vc_guardT 10 rfl rfl ?_
  refine vp ?_
  refine vc_guardT 10 rfl rfl ?_
  iterate 3 refine vp ?_
  refine vc_nil ?_
  refine vc_then ?_
  refine vc_ret ?_
  exact vc_end1 Tryz.results84 rfl _ (ent_pick [] rfl) ⟨by simp [*], rfl⟩
 ·skip
  refine vc_guardF 10 rfl rfl rfl rfl ?_
  refine vc_guardF 10 rfl rfl rfl rfl ?_
  refine vc_guardF 10 rfl rfl rfl rfl ?_
  refine vp ?_
  refine vp ?_
  refine vc_nil ?_
  refine vc_then ?_
  refine vc_ret ?_
  exact vc_end1 Tryz.results84 rfl _ (ent_pick [] rfl) ⟨by simp [*], rfl⟩
theorem rkey_spec (s : ByteArray) : Does Tryz.prog 86 [.string s] [] (fun v l => v = .bool (decide ((1 : Int) ≤ (s.size : Int)) && decide ((s.size : Int) ≤ 32)) ∧ l = []) := by
 refine spec_of Tryz.func86 rfl Tryz.ntmps86 Tryz.results86 _ (by simp) fun ι F => ?_
 refine vc_seq ?_
 refine vc_region ?_
 refine vp ?_
 refine vc_nil ?_
 refine vc_then ?_
 refine vc_seq ?_
 refine vc_region ?_
 refine vp ?_
 refine vc_y (y_strLen Tryz.underlying9 rfl) rfl ?_
 refine vc_callv ca_84 (us := []) (vs := []) rfl [_, _, _] rfl [] rfl (within_spec _ _ _) rfl ?_
 rintro _ _ ⟨rfl, rfl⟩
 refine vp ?_
 refine vc_nil ?_
 refine vc_then ?_
 refine vc_ret ?_
 exact vc_end1 Tryz.results86 rfl _ (ent_pick [] rfl) ⟨rfl, rfl⟩
theorem lright_spec {A : HP} {h : SH} {xs : List Int} (hv : Vis A (Rd eU64 h xs)) : Does Tryz.prog 93 [h.v] [A] (fun v l => v = .bool (labelRight xs) ∧ l = [A]) := by
 refine spec_of Tryz.func93 rfl Tryz.ntmps93 Tryz.results93 _ (by simp) fun ι F => ?_
 refine vc_see 0 rfl (hv.imp fun w r => r.len) (fun hlen => ?_)
 refine vc_seq ?_
 refine vc_region ?_
 refine vp ?_
 refine vc_nil ?_
 refine vc_then ?_
 refine vc_seq ?_
 refine vc_seq ?_
 refine vc_region ?_
 refine vp ?_
 refine vc_y (y_len Tryz.underlying22 rfl (by first | assumption | rfl)) rfl ?_
 refine vp ?_
 refine vc_nil ?_
 refine vc_then ?_
 first | refine vc_condP rfl (fun c8 => ?_) (fun c8 => ?_) | refine vc_condN rfl (fun c8 => ?_) (fun c8 => ?_) | refine vc_cond rfl (fun c8 => ?_) (fun c8 => ?_)
 ·skip
  refine vc_seq ?_
  refine vc_region ?_
  refine vp ?_
  refine vc_nil ?_
  refine vc_then ?_
  refine vc_ret ?_
  refine vc_thenRet ?_
  exact vc_end1 Tryz.results93 rfl _ (ent_pick [0] rfl) ⟨by simp [labelRight]; omega, rfl⟩
 ·skip
  have hb : xs.length ≤ 6 := by omega
  refine vc_skip ?_
  refine vc_then ?_
  refine vc_seq ?_
  refine vc_region ?_
  refine vp ?_
  refine vc_nil ?_
  refine vc_then ?_
  refine vc_seq ?_
  refine vc_seq ?_
  refine vc_region ?_
  refine vp ?_
  refine vc_y (y_len Tryz.underlying22 rfl (by first | assumption | rfl)) rfl ?_
  refine vp ?_
  refine vc_nil ?_
  refine vc_then ?_
  refine vc_block ?_
  refine vc_loop (α := Nat) (fun xq_ => match xq_ with | i => [(0, h.v), (3, .int .u64 (lastT xs i)), (9, h.v), (10, .int .i64 (xs.length : Int)), (11, .int .i64 (i : Int))]) (fun xq_ => match xq_ with | i => [A]) (fun xq_ => match xq_ with | i => xs.length - i) (fun xq_ => match xq_ with | i => i ≤ xs.length ∧ tagFrom 0 xs = tagFrom (lastT xs i) (xs.drop i)) 0 ⟨Nat.zero_le _, rfl⟩ ⟨rfl, rfl, rfl, rfl, rfl, trivial⟩ (ent_pick [0] rfl) ?_
  rintro i ⟨hi, hch⟩
  show VC _ _ _ _ [(0, h.v), (3, .int .u64 (lastT xs i)), (9, h.v), (10, .int .i64 (xs.length : Int)), (11, .int .i64 (i : Int))] ([A])
  refine vc_seq ?_
  refine vc_region ?_
  refine vp ?_
  refine vc_nil ?_
  refine vc_then ?_
  refine vc_seq ?_
  first | refine vc_condP rfl (fun c12 => ?_) (fun c12 => ?_) | refine vc_condN rfl (fun c12 => ?_) (fun c12 => ?_) | refine vc_cond rfl (fun c12 => ?_) (fun c12 => ?_)
  ·skip
   have hi2 : i < xs.length := by omega
   have hch2 : tagFrom 0 xs = (decide (lastT xs i < xs[i]) && tagFrom xs[i] (xs.drop (i + 1))) := by rw [hch, List.drop_eq_getElem_cons hi2]; rfl
   have hls := lastT_succ hi2
   refine vc_skip ?_
   refine vc_then ?_
   refine vc_seq ?_
   refine vc_block ?_
   refine vc_seq ?_
   refine vc_region ?_
   refine vc_y (y_elem 0 rfl (hv) i rfl hi2 sl_22 rfl rfl) rfl ?_
   refine vc_y (y_load1 0 rfl one_34 rfl (Rd.vis1 (hv) (List.getElem?_eq_getElem (by first | assumption | omega)) rfl)) rfl ?_
   refine vp ?_
   refine vc_nil ?_
   refine vc_then ?_
   refine vc_seq ?_
   refine vc_seq ?_
   refine vc_region ?_
   iterate 3 refine vp ?_
   refine vc_nil ?_
   refine vc_then ?_
   first | refine vc_condP rfl (fun c17 => ?_) (fun c17 => ?_) | refine vc_condN rfl (fun c17 => ?_) (fun c17 => ?_) | refine vc_cond rfl (fun c17 => ?_) (fun c17 => ?_)
   ·skip
    refine vc_seq ?_
    refine vc_region ?_
    refine vp ?_
    refine vc_nil ?_
    refine vc_then ?_
    refine vc_ret ?_
    refine vc_thenRet ?_
    refine vc_inRet ?_
    refine vc_thenRet ?_
    refine vc_thenRet ?_
    refine vc_inRet ?_
    refine vc_thenRet ?_
    exact vc_end1 Tryz.results93 rfl _ (ent_pick [0] rfl) ⟨by unfold labelRight; rw [hch2, decide_eq_false (by omega : ¬ lastT xs i < xs[i])]; simp, rfl⟩
   ·skip
    refine vc_skip ?_
    refine vc_then ?_
    refine vc_region ?_
    refine vc_keep [(0, h.v), (5, .int .u64 (lastT xs (i + 1))), (9, h.v), (10, .int .i64 (xs.length : Int)), (11, .int .i64 (i : Int))] ⟨rfl, by rw [hls]; rfl, rfl, rfl, rfl, trivial⟩ ?_
    refine vp ?_
    refine vp ?_
    refine vc_nil ?_
    refine vc_inNormal ?_
    refine vc_then ?_
    refine vc_region ?_
    first | refine vc_y (y_arith _ rfl (wrapNadd (by omega))) rfl ?_ | refine vc_y (y_arith _ rfl (wrap64 (by omega) (by omega))) rfl ?_ | refine vp ?_
    refine vp ?_
    refine vc_nil ?_
    refine vc_then ?_
    exact vc_again (x := i) (i + 1) ⟨hi2, by rw [hch2, lastT_succ hi2, decide_eq_true (by omega)]; rfl⟩ (by show xs.length - (i + 1) < xs.length - i; omega) ⟨rfl, rfl, rfl, rfl, rfl, trivial⟩ (ent_pick [0] rfl)
  ·skip
   obtain rfl : i = xs.length := by omega
   refine vc_exit ?_
   refine vc_thenExit ?_
   refine vc_thenExit ?_
   refine vc_inExit ?_
   refine vc_then ?_
   refine vc_seq ?_
   refine vc_region ?_
   refine vp ?_
   refine vc_nil ?_
   refine vc_then ?_
   refine vc_ret ?_
   exact vc_end1 Tryz.results93 rfl _ (ent_pick [0] rfl) ⟨by unfold labelRight; rw [hch, List.drop_length, decide_eq_true (by omega)]; rfl, rfl⟩
theorem ring_last0 {b : Nat} {R : RR} {hs : SH} (hb : R.stamps.length ≤ 100) : Does Tryz.prog 121 [.pointer (some ⟨b, 0, none⟩)] (RO b R hs) (fun v l => v = .int .u64 (lastS R.stamps) ∧ l = RO b R hs) := by
 refine spec_of Tryz.func121 rfl Tryz.ntmps121 Tryz.results121 _ (by simp) fun ι F => ?_
 refine vc_see 1 rfl (Sl.vis.imp fun w r => r.len) (fun hlen => ?_)
 refine vc_seq ?_
 refine vc_region ?_
 refine vp ?_
 refine vc_nil ?_
 refine vc_then ?_
 refine vc_seq ?_
 refine vc_seq ?_
 refine vc_region ?_
 refine vp ?_
 refine vp ?_
 refine vc_y (y_fieldP fl_190_3 3 rfl rfl) rfl ?_
 refine vc_y (y_load1 0 rfl one_22 rfl (Pts.vis rfl)) rfl ?_
 refine vc_y (y_len Tryz.underlying22 rfl (by first | assumption | rfl)) rfl ?_
 refine vp ?_
 refine vc_nil ?_
 refine vc_then ?_
 first | refine vc_condP rfl (fun c8 => ?_) (fun c8 => ?_) | refine vc_condN rfl (fun c8 => ?_) (fun c8 => ?_) | refine vc_cond rfl (fun c8 => ?_) (fun c8 => ?_)
 ·skip
  refine vc_seq ?_
  refine vc_region ?_
  refine vp ?_
  refine vc_nil ?_
  refine vc_then ?_
  refine vc_ret ?_
  refine vc_thenRet ?_
  exact vc_end1 Tryz.results121 rfl _ (ent_pick [0, 0] rfl) ⟨by simp [lastS, show R.stamps = [] from List.length_eq_zero_iff.1 (by omega)], rfl⟩
 ·skip
  refine vc_skip ?_
  refine vc_then ?_
  refine vc_seq ?_
  refine vc_draw (by kernel_rfl) _ none [0, 0] rfl ?_
  refine tpp 0 ?_
  refine tpp 1 ?_
  refine tp 2 rfl (by exact y_fieldP fl_190_3 3 rfl rfl) ?_
  refine tk 3 rfl (by exact y_load1 0 rfl one_22 rfl (Pts.vis rfl)) ?_
  refine tpp 4 ?_
  refine tpp 5 ?_
  refine tp 6 rfl (by exact y_fieldP fl_190_3 3 rfl rfl) ?_
  refine tk 7 rfl (by exact y_load1 0 rfl one_22 rfl (Pts.vis rfl)) ?_
  refine tp 8 rfl (by exact y_len Tryz.underlying22 rfl (by first | assumption | rfl)) ?_
  refine va_takeP 9 rfl (by kernel_rfl) (by kernel_rfl) (by kernel_rfl) (by kernel_rfl) (fun _ _ _ h => h) (fun _ _ => rfl) (by exact y_arith ((R.stamps.length - 1 : Nat) : Int) rfl (wrapNsub (by omega))) rfl ?_
  refine tk 10 rfl (by exact y_elem 1 rfl (Sl.vis) (R.stamps.length - 1) rfl (by omega) sl_22 rfl rfl) ?_
  refine tk 11 rfl (by exact y_load1 1 rfl one_34 rfl (Rd.vis1 (Sl.vis) (List.getElem?_eq_getElem (by first | assumption | omega)) rfl)) ?_
  refine tpp 12 ?_
  refine va_done (by kernel_rfl) ?_
  refine vc_then ?_
  refine vc_ret ?_
  exact vc_end1 Tryz.results121 rfl _ (ent_pick [0, 0] rfl) ⟨by simp only [lastS]; rw [List.getElem?_eq_getElem (by omega)], rfl⟩
theorem ring_seq0 {b : Nat} {R : RR} {hs : SH} : Does Tryz.prog 74 [.pointer (some ⟨b, 0, none⟩)] (RO b R hs) (fun v l => v = .int .i64 R.seq ∧ l = RO b R hs) := by
 refine spec_of Tryz.func74 rfl Tryz.ntmps74 Tryz.results74 _ (by simp) fun ι F => ?_
 refine vc_seq ?_
 refine vc_region ?_
 refine vp ?_
 refine vc_nil ?_
 refine vc_then ?_
 refine vc_seq ?_
 refine vc_seq ?_
 refine vc_region ?_
 refine vp ?_
 refine vc_y (y_eqNil ep_128 rfl rfl) rfl ?_
 refine vc_nil ?_
 refine vc_then ?_
 refine vc_condF rfl ?_
 refine vc_skip ?_
 refine vc_then ?_
 refine vc_seq ?_
 refine vc_region ?_
 refine vp ?_
 refine vp ?_
 refine vc_y (y_fieldP fl_190_2 2 rfl rfl) rfl ?_
 refine vc_y (y_load1 0 rfl one_3 rfl (Pts.vis rfl)) rfl ?_
 refine vp ?_
 refine vc_nil ?_
 refine vc_then ?_
 refine vc_ret ?_
 exact vc_end1 Tryz.results74 rfl _ (ent_pick [0, 0] rfl) ⟨rfl, rfl⟩
theorem ring_floor0 {b : Nat} {R : RR} {hs : SH} (ok : R.ok) : Does Tryz.prog 80 [.pointer (some ⟨b, 0, none⟩)] (RO b R hs) (fun v l => v = .int .i64 R.floor ∧ l = RO b R hs) := by
 refine spec_of Tryz.func80 rfl Tryz.ntmps80 Tryz.results80 _ (by simp) fun ι F => ?_
 obtain ⟨o1, o2, o3, o4, o5, o6, o7, o8⟩ := ok
 refine vc_seq ?_
 refine vc_region ?_
 refine vp ?_
 refine vc_nil ?_
 refine vc_then ?_
 refine vc_seq ?_
 refine vc_seq ?_
 refine vc_region ?_
 refine vp ?_
 refine vc_y (y_eqNil ep_128 rfl rfl) rfl ?_
 refine vc_nil ?_
 refine vc_then ?_
 refine vc_condF rfl ?_
 refine vc_skip ?_
 refine vc_then ?_
 refine vc_seq ?_
 refine vc_draw (by kernel_rfl) _ none [0, 0] rfl ?_
 refine tpp 0 ?_
 refine tpp 1 ?_
 refine tp 2 rfl (by exact y_fieldP fl_190_2 2 rfl rfl) ?_
 refine tk 3 rfl (by exact y_load1 0 rfl one_3 rfl (Pts.vis rfl)) ?_
 refine tpp 4 ?_
 refine tpp 5 ?_
 refine tp 6 rfl (by exact y_fieldP fl_190_0 0 rfl rfl) ?_
 refine tk 7 rfl (by exact y_load1 0 rfl one_3 rfl (Pts.vis rfl)) ?_
 first | refine tp 8 rfl (by exact y_arith _ rfl (wrap64 (by omega) (by omega))) ?_ | refine tpp 8 ?_
 first | refine tp 9 rfl (by exact y_arith _ rfl (wrapNadd (by omega))) ?_ | refine tp 9 rfl (by exact y_arith _ rfl (wrap64 (by omega) (by omega))) ?_ | refine tpp 9 ?_
 refine tpp 10 ?_
 refine tpp 11 ?_
 refine tp 12 rfl (by exact y_fieldP fl_190_1 1 rfl rfl) ?_
 refine tk 13 rfl (by exact y_load1 0 rfl one_3 rfl (Pts.vis rfl)) ?_
 refine tp 14 rfl (by exact y_max2 _ rfl rfl rfl) ?_
 refine tpp 15 ?_
 refine va_done (by kernel_rfl) ?_
 refine vc_then ?_
 refine vc_ret ?_
 exact vc_end1 Tryz.results80 rfl _ (ent_pick [0, 0] rfl) ⟨by unfold RR.floor; congr 1; split <;> omega, rfl⟩
theorem ring_push0 {b : Nat} {R : RR} {hs : SH} (ok : R.ok) (s : Int) : Does Tryz.prog 72 [.pointer (some ⟨b, 0, none⟩), .int .u64 s] (RO b R hs) (fun v l => v = .tuple #[.int .i64 (pushR R s).1, .int .i64 (pushR R s).2.1] ∧ ∃ hs', l = RO b (pushR R s).2.2 hs') := by
 refine spec_of Tryz.func72 rfl Tryz.ntmps72 Tryz.results72 _ (by simp) fun ι F => ?_
 obtain ⟨o1, o2, o3, o4, o5, o6, o7, o8⟩ := ok
 refine vc_see 1 rfl (Sl.vis.imp fun w r => r.len) (fun hlen => ?_)
 refine vc_seq ?_
 refine vc_region ?_
 refine vp ?_
 refine vp ?_
 refine vc_nil ?_
 refine vc_then ?_
 refine vc_seq ?_
 refine vc_block ?_
 refine vc_seq ?_
 refine vc_region ?_
 refine vp ?_
 refine vc_y (y_eqNil ep_128 rfl rfl) rfl ?_
 refine vp ?_
 refine vc_nil ?_
 refine vc_then ?_
 refine vc_condF rfl ?_
 refine vc_seq ?_
 refine vc_region ?_
 refine vp ?_
 refine vp ?_
 refine vc_callv ca_121 (us := []) (vs := []) rfl [_] rfl [0, 0] rfl (ring_last0 (R := R) (hs := hs) (by omega)) rfl ?_
 rintro _ _ ⟨rfl, rfl⟩
 refine vp ?_
 refine vp ?_
 refine vc_nil ?_
 refine vc_then ?_
 first | refine vc_condP rfl (fun c10 => ?_) (fun c10 => ?_) | refine vc_condN rfl (fun c10 => ?_) (fun c10 => ?_) | refine vc_cond rfl (fun c10 => ?_) (fun c10 => ?_)
 ·skip
  have hp : pushR R s = (0, 1, R) := by simp only [pushR]; exact if_pos c10
  refine vc_seq ?_
  refine vc_region ?_
  refine vp ?_
  refine vp ?_
  refine vc_nil ?_
  refine vc_then ?_
  refine vc_ret ?_
  refine vc_inRet ?_
  refine vc_thenRet ?_
  exact vc_end2 Tryz.results72 rfl rfl _ (ent_pick [0, 0] rfl) ⟨by rw [hp], hs, by rw [hp]; rfl⟩
 ·skip
  refine vc_seq ?_
  refine vc_region ?_
  refine vp ?_
  refine vp ?_
  refine vc_y (y_fieldP fl_190_2 2 rfl rfl) rfl ?_
  refine vc_y (y_load1 0 rfl one_3 rfl (Pts.vis rfl)) rfl ?_
  refine vp ?_
  refine vp ?_
  refine vc_nil ?_
  refine vc_then ?_
  first | refine vc_condP rfl (fun c15 => ?_) (fun c15 => ?_) | refine vc_condN rfl (fun c15 => ?_) (fun c15 => ?_) | refine vc_cond rfl (fun c15 => ?_) (fun c15 => ?_)
  ·skip
   have hp : pushR R s = (0, 17, R) := by simp only [pushR]; rw [if_neg c10, if_pos c15]
   refine vc_seq ?_
   refine vc_region ?_
   refine vp ?_
   refine vp ?_
   refine vc_nil ?_
   refine vc_then ?_
   refine vc_ret ?_
   refine vc_inRet ?_
   refine vc_thenRet ?_
   exact vc_end2 Tryz.results72 rfl rfl _ (ent_pick [0, 0] rfl) ⟨by rw [hp], hs, by rw [hp]; rfl⟩
  ·skip
   have hp : pushR R s = (R.seq + 1, 0, ⟨R.size, R.begin, R.seq + 1, (R.stamps ++ [s]).drop (R.stamps.length + 1 - R.size.toNat)⟩) := by simp only [pushR]; rw [if_neg c10, if_neg c15]
   refine vc_skip ?_
   refine vc_inNormal ?_
   refine vc_then ?_
   refine vc_seq ?_
   refine vc_region ?_
   refine vp ?_
   refine vp ?_
   refine vc_y (y_fieldP fl_190_2 2 rfl rfl) rfl ?_
   refine vc_y (y_load1 0 rfl one_3 rfl (Pts.vis rfl)) rfl ?_
   first | refine vc_y (y_arith _ rfl (wrapNadd (by omega))) rfl ?_ | refine vc_y (y_arith _ rfl (wrap64 (by omega) (by omega))) rfl ?_ | refine vp ?_
   refine vp ?_
   refine vc_y (y_fieldP fl_190_2 2 rfl rfl) rfl ?_
   refine vc_storeP 0 rfl [_] [_, _, _, _] rfl rfl rfl sz_3 rfl rfl rfl ?_
   refine vc_nil ?_
   refine vc_then ?_
   refine vc_seq ?_
   refine vc_region ?_
   iterate 3 refine vp ?_
   refine vc_y (y_fieldP fl_190_3 3 rfl rfl) rfl ?_
   refine vc_y (y_load1 0 rfl one_22 rfl (Pts.vis rfl)) rfl ?_
   refine vp ?_
   refine vc_buildSlice (E := eU64) [(0, _)] [s] rfl rfl (bs_22_1 _ rfl) rfl (fun h34 => ?_)
   refine vc_append 2 rfl 0 rfl (Sl.vis) el_22_eU64 Tryz.underlying22 rfl rfl (by simp; omega) (by simp; omega) rfl (fun h35 => ?_)
   refine vp ?_
   refine vc_y (y_fieldP fl_190_3 3 rfl rfl) rfl ?_
   refine vc_storeP 1 rfl [_] [_, _, _, _] rfl rfl rfl sz_22 rfl rfl rfl ?_
   refine vc_nil ?_
   refine vc_then ?_
   refine vc_seq ?_
   refine vc_seq ?_
   refine vc_see 2 rfl (Sl.vis.imp fun w r => r.len) (fun hlen2 => ?_)
   rw [List.length_append, List.length_singleton] at hlen2
   refine vc_draw (by kernel_rfl) _ none [1] rfl ?_
   refine tpp 0 ?_
   refine tpp 1 ?_
   refine tp 2 rfl (by exact y_fieldP fl_190_3 3 rfl rfl) ?_
   refine tk 3 rfl (by exact y_load1 0 rfl one_22 rfl (Pts.vis rfl)) ?_
   refine tp 4 rfl (by exact y_len Tryz.underlying22 (h := h35) rfl (m := R.stamps.length + 1) hlen2) ?_
   refine tpp 5 ?_
   refine tpp 6 ?_
   refine tp 7 rfl (by exact y_fieldP fl_190_0 0 rfl rfl) ?_
   refine tk 8 rfl (by exact y_load1 0 rfl one_3 rfl (Pts.vis rfl)) ?_
   first | refine tp 9 rfl (by exact y_arith _ rfl (wrap64 (by omega) (by omega))) ?_ | refine tpp 9 ?_
   refine tpp 10 ?_
   refine va_done (by kernel_rfl) ?_
   refine vc_then ?_
   refine vc_seq ?_
   refine vc_region ?_
   refine vp ?_
   refine vp ?_
   refine vc_nil ?_
   refine vc_then ?_
   first | refine vc_condP rfl (fun c49 => ?_) (fun c49 => ?_) | refine vc_condN rfl (fun c49 => ?_) (fun c49 => ?_) | refine vc_cond rfl (fun c49 => ?_) (fun c49 => ?_)
   ·skip
    refine vc_keep [(0, .pointer (some ⟨b, 0, none⟩)), (6, .int .i64 ((R.stamps.length + 1 - R.size.toNat : Nat) : Int))] ⟨rfl, by simp only [lk, cond]; congr 2; omega, trivial⟩ ?_
    refine vc_region ?_
    iterate 3 refine vp ?_
    refine vc_y (y_fieldP fl_190_3 3 rfl rfl) rfl ?_
    refine vc_y (y_load1 1 rfl one_22 rfl (Pts.vis rfl)) rfl ?_
    refine vp ?_
    refine vc_callv ca_122 (us := []) (vs := []) rfl [_, _, _] rfl [2] rfl (delU_spec (xs := R.stamps ++ [s]) (i := 0) (j := R.stamps.length + 1 - R.size.toNat) (by omega) (by simp) (by simp; omega)) rfl ?_
    rintro _ _ ⟨g, rfl, rfl⟩
    refine vp ?_
    refine vc_y (y_fieldP fl_190_3 3 rfl rfl) rfl ?_
    refine vc_storeP 2 rfl [_] [_, _, _, _] rfl rfl rfl sz_22 rfl rfl rfl ?_
    refine vc_nil ?_
    refine vc_then ?_
    refine vc_seq ?_
    refine vc_region ?_
    refine vp ?_
    refine vp ?_
    refine vc_y (y_fieldP fl_190_2 2 rfl rfl) rfl ?_
    refine vc_y (y_load1 2 rfl one_3 rfl (Pts.vis rfl)) rfl ?_
    refine vp ?_
    refine vp ?_
    refine vc_nil ?_
    refine vc_then ?_
    refine vc_ret ?_
    exact vc_end2 Tryz.results72 rfl rfl _ (ent_pick [2, 0] rfl) ⟨by rw [hp], g, by rw [hp]; simp only [List.take_zero, List.nil_append]; rfl⟩
   ·skip
    refine vc_skip ?_
    refine vc_then ?_
    refine vc_seq ?_
    refine vc_region ?_
    refine vp ?_
    refine vp ?_
    refine vc_y (y_fieldP fl_190_2 2 rfl rfl) rfl ?_
    refine vc_y (y_load1 1 rfl one_3 rfl (Pts.vis rfl)) rfl ?_
    refine vp ?_
    refine vp ?_
    refine vc_nil ?_
    refine vc_then ?_
    refine vc_ret ?_
    exact vc_end2 Tryz.results72 rfl rfl _ (ent_pick [1, 1] rfl) ⟨by rw [hp], h35, by rw [hp]; simp only [show R.stamps.length + 1 - R.size.toNat = 0 by omega, List.drop_zero]; rfl⟩
theorem isNaNu2_spec (a : Int) : Does Tryz.prog 174 [.int .u64 a] [] (fun v l => v = .bool false ∧ l = []) := by
 refine spec_of Tryz.func174 rfl Tryz.ntmps174 Tryz.results174 _ (by simp) fun ι F => ?_
 refine vc_seq ?_
 refine vc_region ?_
 refine vp ?_
 refine vc_nil ?_
 refine vc_then ?_
 refine vc_seq ?_
 refine vc_region ?_
 iterate 4 refine vp ?_
 refine vc_nil ?_
 refine vc_then ?_
 refine vc_ret ?_
 exact vc_end1 Tryz.results174 rfl _ (ent_pick [] rfl) ⟨by simp, rfl⟩
theorem isNaNu_spec (a : Int) : Does Tryz.prog 200 [.int .u64 a] [] (fun v l => v = .bool false ∧ l = []) := by
 refine spec_of Tryz.func200 rfl Tryz.ntmps200 Tryz.results200 _ (by simp) fun ι F => ?_
 refine vc_seq ?_
 refine vc_region ?_
 refine vp ?_
 refine vc_nil ?_
 refine vc_then ?_
 refine vc_seq ?_
 refine vc_region ?_
 iterate 4 refine vp ?_
 refine vc_nil ?_
 refine vc_then ?_
 refine vc_ret ?_
 exact vc_end1 Tryz.results200 rfl _ (ent_pick [] rfl) ⟨by simp, rfl⟩
theorem lessU_spec (a b : Int) : Does Tryz.prog 173 [.int .u64 a, .int .u64 b] [] (fun v l => v = .bool (decide (a < b)) ∧ l = []) := by
 refine spec_of Tryz.func173 rfl Tryz.ntmps173 Tryz.results173 _ (by simp) fun ι F => ?_
 refine vc_seq ?_
 refine vc_region ?_
 refine vp ?_
 refine vc_nil ?_
 refine vc_then ?_
 refine vc_seq ?_
 refine vc_region ?_
 refine vp ?_
 refine vc_callv ca_200 (us := []) (vs := []) rfl [_] rfl [] rfl (isNaNu_spec _) rfl ?_
 rintro _ _ ⟨rfl, rfl⟩
 refine vp ?_
 refine vc_guardF 7 rfl rfl rfl rfl ?_
 refine vc_guardF 7 rfl rfl rfl rfl ?_
 refine vc_guardF 7 rfl rfl rfl rfl ?_
 refine vp ?_
 refine vp ?_
 refine vc_guardT 12 rfl rfl ?_
 refine vp ?_
 refine vc_guardT 12 rfl rfl ?_
 refine vp ?_
 refine vc_guardT 12 rfl rfl ?_
 iterate 3 refine vp ?_
 refine vc_nil ?_
 refine vc_then ?_
 refine vc_ret ?_
 exact vc_end1 Tryz.results173 rfl _ (ent_pick [] rfl) ⟨rfl, rfl⟩
theorem bsU_spec {A : HP} {h : SH} {xs : List Int} (hv : Vis A (Rd eU64 h xs)) (hr : RiseI xs) (k : Int) (hb : xs.length ≤ 4611686018427387903) :
  Does Tryz.prog 137 [h.v, .int .u64 k] [A] (fun v l => v = .tuple #[.int .i64 (lbI xs k : Int), .bool (fndI xs k)] ∧ l = [A]) := by
 refine spec_of Tryz.func137 rfl Tryz.ntmps137 Tryz.results137 _ (by simp) fun ι F => ?_
 refine vc_see 0 rfl (hv.imp fun w r => r.len) (fun hlen => ?_)
 have hlb := lbI_le xs k
 refine vc_seq ?_
 refine vc_region ?_
 refine vp ?_
 refine vp ?_
 refine vc_nil ?_
 refine vc_then ?_
 refine vc_seq ?_
 refine vc_region ?_
 refine vp ?_
 refine vc_y (y_len Tryz.underlying22 rfl (by first | assumption | rfl)) rfl ?_
 refine vp ?_
 refine vc_nil ?_
 refine vc_then ?_
 refine vc_seq ?_
 refine vc_region ?_
 iterate 3 refine vp ?_
 refine vc_nil ?_
 refine vc_then ?_
 refine vc_seq ?_
 refine vc_block ?_
 refine vc_loop (α := Nat × Nat) (fun xq_ => match xq_ with | (i, j) => [(0, h.v), (1, .int .u64 k), (6, .int .i64 (xs.length : Int)), (7, .int .i64 (i : Int)), (8, .int .i64 (j : Int))]) (fun xq_ => match xq_ with | (i, j) => [A]) (fun xq_ => match xq_ with | (i, j) => j - i) (fun xq_ => match xq_ with | (i, j) => i ≤ lbI xs k ∧ lbI xs k ≤ j ∧ j ≤ xs.length) (0, xs.length) ⟨Nat.zero_le _, hlb, Nat.le_refl _⟩ ⟨rfl, rfl, rfl, rfl, rfl, trivial⟩ (ent_pick [0] rfl) ?_
 rintro ⟨i, j⟩ ⟨h1, h2, h3⟩
 show VC _ _ _ _ [(0, h.v), (1, .int .u64 k), (6, .int .i64 (xs.length : Int)), (7, .int .i64 (i : Int)), (8, .int .i64 (j : Int))] ([A])
 refine vc_seq ?_
 refine vc_seq ?_
 refine vc_region ?_
 iterate 3 refine vp ?_
 refine vc_nil ?_
 refine vc_then ?_
 first | refine vc_condP rfl (fun c15 => ?_) (fun c15 => ?_) | refine vc_condN rfl (fun c15 => ?_) (fun c15 => ?_) | refine vc_cond rfl (fun c15 => ?_) (fun c15 => ?_)
 ·skip
  refine vc_skip ?_
  refine vc_then ?_
  refine vc_block ?_
  refine vc_seq ?_
  refine vc_region ?_
  refine vp ?_
  refine vp ?_
  first | refine vc_y (y_arith _ rfl (wrap64 (by omega) (by omega))) rfl ?_ | refine vp ?_
  first | refine vc_y (y_conv _ Tryz.underlying3 Tryz.underlying170 rfl (wrapU64 (by omega) (by omega))) rfl ?_ | refine vc_y (y_conv _ Tryz.underlying3 Tryz.underlying170 rfl rfl) rfl ?_
  refine vc_y (y_shr (((i + j) / 2 : Nat) : Int) rfl rfl (by decide) (shr1 i j)) rfl ?_
  first | refine vc_y (y_conv _ Tryz.underlying170 Tryz.underlying3 rfl (wrap64 (by omega) (by omega))) rfl ?_ | refine vc_y (y_conv _ Tryz.underlying170 Tryz.underlying3 rfl rfl) rfl ?_
  refine vp ?_
  refine vc_nil ?_
  refine vc_then ?_
  refine vc_seq ?_
  refine vc_region ?_
  refine vp ?_
  refine vp ?_
  refine vc_y (y_elem 0 rfl (hv) _ rfl (by first | assumption | omega) sl_22 rfl rfl) rfl ?_
  refine vc_y (y_load1 0 rfl one_34 rfl (Rd.vis1 (hv) (List.getElem?_eq_getElem (by first | assumption | omega)) rfl)) rfl ?_
  refine vp ?_
  refine vc_callv ca_173 (us := []) (vs := []) rfl [_, _] rfl [] rfl (lessU_spec _ _) rfl ?_
  rintro _ _ ⟨rfl, rfl⟩
  refine vc_nil ?_
  refine vc_then ?_
  first | refine vc_condP rfl (fun c27 => ?_) (fun c27 => ?_) | refine vc_condN rfl (fun c27 => ?_) (fun c27 => ?_) | refine vc_cond rfl (fun c27 => ?_) (fun c27 => ?_)
  ·skip
   refine vc_region ?_
   refine vp ?_
   first | refine vc_y (y_arith _ rfl (wrapNadd (by omega))) rfl ?_ | refine vc_y (y_arith _ rfl (wrap64 (by omega) (by omega))) rfl ?_ | refine vp ?_
   refine vp ?_
   refine vc_nil ?_
   refine vc_inNormal ?_
   refine vc_then ?_
   first | exact vc_again (x := (i, j)) ((i + j) / 2 + 1, j) ⟨by have := (lbI_iff hr k (i := (i + j) / 2) (by omega)).1 c27; omega, h2, h3⟩ (by show j - ((i + j) / 2 + 1) < j - i; omega) ⟨rfl, rfl, rfl, rfl, rfl, trivial⟩ (ent_pick [0] rfl) | exact vc_again (x := (i, j)) (i, (i + j) / 2) ⟨h1, by have := mt (lbI_iff hr k (i := (i + j) / 2) (by omega)).2 c27; omega, by omega⟩ (by show (i + j) / 2 - i < j - i; omega) ⟨rfl, rfl, rfl, rfl, rfl, trivial⟩ (ent_pick [0] rfl)
  ·skip
   refine vc_region ?_
   refine vp ?_
   refine vp ?_
   refine vc_nil ?_
   refine vc_inNormal ?_
   refine vc_then ?_
   first | exact vc_again (x := (i, j)) ((i + j) / 2 + 1, j) ⟨by have := (lbI_iff hr k (i := (i + j) / 2) (by omega)).1 c27; omega, h2, h3⟩ (by show j - ((i + j) / 2 + 1) < j - i; omega) ⟨rfl, rfl, rfl, rfl, rfl, trivial⟩ (ent_pick [0] rfl) | exact vc_again (x := (i, j)) (i, (i + j) / 2) ⟨h1, by have := mt (lbI_iff hr k (i := (i + j) / 2) (by omega)).2 c27; omega, by omega⟩ (by show (i + j) / 2 - i < j - i; omega) ⟨rfl, rfl, rfl, rfl, rfl, trivial⟩ (ent_pick [0] rfl)
 ·skip
  obtain rfl : i = lbI xs k := by omega
  refine vc_exit ?_
  refine vc_thenExit ?_
  refine vc_thenExit ?_
  refine vc_inExit ?_
  refine vc_then ?_
  refine vc_seq ?_
  refine vc_region ?_
  iterate 5 refine vp ?_
  first | refine vc_splitP 35 rfl (fun c35 => ?_) (fun c35 => ?_) | refine vc_splitN 35 rfl (fun c35 => ?_) (fun c35 => ?_) | refine vc_split 35 rfl (fun c35 => ?_) (fun c35 => ?_)
  ·skip
   refine vc_guardT 35 rfl rfl ?_
   refine vp ?_
   refine vc_guardT 35 rfl rfl ?_
   refine vp ?_
   refine vc_guardT 35 rfl rfl ?_
   refine vc_y (y_elem 0 rfl (hv) _ rfl (by first | assumption | omega) sl_22 rfl rfl) rfl ?_
   refine vc_guardT 35 rfl rfl ?_
   refine vc_y (y_load1 0 rfl one_34 rfl (Rd.vis1 (hv) (List.getElem?_eq_getElem (by first | assumption | omega)) rfl)) rfl ?_
   refine vc_guardT 35 rfl rfl ?_
   refine vp ?_
   refine vc_guardT 35 rfl rfl ?_
   refine vp ?_
   refine vc_guardT 35 rfl rfl ?_
   refine vp ?_
   first | refine vc_splitP 42 rfl (fun c42 => ?_) (fun c42 => ?_) | refine vc_splitN 42 rfl (fun c42 => ?_) (fun c42 => ?_) | refine vc_split 42 rfl (fun c42 => ?_) (fun c42 => ?_)
   ·skip
    refine vc_guardF 42 rfl rfl rfl rfl ?_
    refine vc_guardF 42 rfl rfl rfl rfl ?_
    refine vc_guardF 42 rfl rfl rfl rfl ?_
    refine vc_guardF 42 rfl rfl rfl rfl ?_
    refine vc_guardF 42 rfl rfl rfl rfl ?_
    refine vc_guardF 42 rfl rfl rfl rfl ?_
    refine vc_guardU 48 rfl rfl rfl ?_
    refine vc_guardU 48 rfl rfl rfl ?_
    refine vc_guardF 42 rfl rfl rfl rfl ?_
    refine vc_guardT 35 rfl rfl ?_
    iterate 4 refine vp ?_
    refine vc_nil ?_
    refine vc_then ?_
    refine vc_ret ?_
    exact vc_end2 Tryz.results137 rfl rfl _ (ent_pick [0] rfl) ⟨by simp [fndI, show lbI xs k < xs.length by omega, c42], rfl⟩
   ·skip
    refine vc_guardT 42 rfl rfl ?_
    refine vp ?_
    refine vc_guardT 42 rfl rfl ?_
    refine vp ?_
    refine vc_guardT 42 rfl rfl ?_
    refine vc_y (y_elem 0 rfl (hv) _ rfl (by first | assumption | omega) sl_22 rfl rfl) rfl ?_
    refine vc_guardT 42 rfl rfl ?_
    refine vc_y (y_load1 0 rfl one_34 rfl (Rd.vis1 (hv) (List.getElem?_eq_getElem (by first | assumption | omega)) rfl)) rfl ?_
    refine vc_guardT 42 rfl rfl ?_
    refine vc_callv ca_174 (us := []) (vs := []) rfl [_] rfl [] rfl (isNaNu2_spec _) rfl ?_
    rintro _ _ ⟨rfl, rfl⟩
    refine vc_guardT 42 rfl rfl ?_
    refine vp ?_
    refine vc_guardF 48 rfl rfl rfl rfl ?_
    refine vc_guardF 48 rfl rfl rfl rfl ?_
    refine vc_guardT 42 rfl rfl ?_
    refine vp ?_
    refine vc_guardT 35 rfl rfl ?_
    iterate 4 refine vp ?_
    refine vc_nil ?_
    refine vc_then ?_
    refine vc_ret ?_
    exact vc_end2 Tryz.results137 rfl rfl _ (ent_pick [0] rfl) ⟨by simp [fndI, show lbI xs k < xs.length by omega, c42], rfl⟩
  ·skip
   refine vc_guardF 35 rfl rfl rfl rfl ?_
   refine vc_guardF 35 rfl rfl rfl rfl ?_
   refine vc_guardF 35 rfl rfl rfl rfl ?_
   refine vc_guardF 35 rfl rfl rfl rfl ?_
   refine vc_guardF 35 rfl rfl rfl rfl ?_
   refine vc_guardF 35 rfl rfl rfl rfl ?_
   refine vc_guardF 35 rfl rfl rfl rfl ?_
   refine vc_guardU 42 rfl rfl rfl ?_
   refine vc_guardU 42 rfl rfl rfl ?_
   refine vc_guardU 42 rfl rfl rfl ?_
   refine vc_guardU 42 rfl rfl rfl ?_
   refine vc_guardU 42 rfl rfl rfl ?_
   refine vc_guardU 42 rfl rfl rfl ?_
   refine vc_guardU 48 rfl rfl rfl ?_
   refine vc_guardU 48 rfl rfl rfl ?_
   refine vc_guardU 42 rfl rfl rfl ?_
   refine vc_guardF 35 rfl rfl rfl rfl ?_
   iterate 3 refine vp ?_
   refine vc_nil ?_
   refine vc_then ?_
   refine vc_ret ?_
   exact vc_end2 Tryz.results137 rfl rfl _ (ent_pick [0] rfl) ⟨by simp [fndI, show ¬ lbI xs k < xs.length by omega], rfl⟩
theorem ring_asof0 {b : Nat} {R : RR} {hs : SH} (ok : R.ok) (s : Int) : Does Tryz.prog 95 [.pointer (some ⟨b, 0, none⟩), .int .u64 s] (RO b R hs) (fun v l => v = .tuple #[.int .i64 (asOfR R s).1, .int .i64 (asOfR R s).2] ∧ l = RO b R hs) := by
 refine spec_of Tryz.func95 rfl Tryz.ntmps95 Tryz.results95 _ (by simp) fun ι F => ?_
 obtain ⟨o1, o2, o3, o4, o5, o6, o7, o8⟩ := id ok
 refine vc_see 1 rfl (Sl.vis.imp fun w r => r.len) (fun hlen => ?_)
 have hle := leI_eq o8 s
 have hlb := lbI_le R.stamps s
 have hll := leI_le R.stamps s
 refine vc_seq ?_
 refine vc_region ?_
 refine vp ?_
 refine vp ?_
 refine vc_nil ?_
 refine vc_then ?_
 refine vc_seq ?_
 refine vc_seq ?_
 refine vc_region ?_
 refine vp ?_
 refine vc_y (y_eqNil ep_128 rfl rfl) rfl ?_
 refine vc_nil ?_
 refine vc_then ?_
 refine vc_condF rfl ?_
 refine vc_skip ?_
 refine vc_then ?_
 refine vc_seq ?_
 refine vc_region ?_
 refine vp ?_
 refine vp ?_
 refine vc_y (y_fieldP fl_190_3 3 rfl rfl) rfl ?_
 refine vc_y (y_load1 0 rfl one_22 rfl (Pts.vis rfl)) rfl ?_
 refine vp ?_
 refine vc_callv ca_137 (us := []) (vs := []) rfl [_, _] rfl [1] rfl (bsU_spec Sl.vis o8 s (by omega)) rfl ?_
 rintro _ _ ⟨rfl, rfl⟩
 iterate 5 refine vp ?_
 refine vc_nil ?_
 refine vc_then ?_
 refine vc_seq ?_
 refine vc_seq ?_
 refine vc_region ?_
 refine vp ?_
 refine vc_nil ?_
 refine vc_then ?_
 first | refine vc_condP rfl (fun c20 => ?_) (fun c20 => ?_) | refine vc_condN rfl (fun c20 => ?_) (fun c20 => ?_) | refine vc_cond rfl (fun c20 => ?_) (fun c20 => ?_)
 ·skip
  have hf : leI R.stamps s = lbI R.stamps s + 1 := by rw [hle]; exact if_pos c20
  refine vc_region ?_
  refine vp ?_
  first | refine vc_y (y_arith _ rfl (wrapNadd (by omega))) rfl ?_ | refine vc_y (y_arith _ rfl (wrap64 (by omega) (by omega))) rfl ?_ | refine vp ?_
  refine vp ?_
  refine vc_nil ?_
  refine vc_then ?_
  refine vc_seq ?_
  refine vc_keep [(0, .pointer (some ⟨b, 0, none⟩)), (6, .int .i64 (leI R.stamps s : Int))] ⟨rfl, by rw [hf]; rfl, trivial⟩ ?_
  refine vc_draw (by kernel_rfl) _ none [0, 0] rfl ?_
  refine tpp 0 ?_
  refine tpp 1 ?_
  refine tp 2 rfl (by exact y_fieldP fl_190_2 2 rfl rfl) ?_
  refine tk 3 rfl (by exact y_load1 1 rfl one_3 rfl (Pts.vis rfl)) ?_
  refine tpp 4 ?_
  refine tpp 5 ?_
  refine tp 6 rfl (by exact y_fieldP fl_190_3 3 rfl rfl) ?_
  refine tk 7 rfl (by exact y_load1 1 rfl one_22 rfl (Pts.vis rfl)) ?_
  refine tp 8 rfl (by exact y_len Tryz.underlying22 rfl (by first | assumption | rfl)) ?_
  first | refine tp 9 rfl (by exact y_arith _ rfl (wrap64 (by omega) (by omega))) ?_ | refine tpp 9 ?_
  refine tpp 10 ?_
  first | refine tp 11 rfl (by exact y_arith _ rfl (wrap64 (by omega) (by omega))) ?_ | refine tpp 11 ?_
  refine tpp 12 ?_
  refine va_done (by kernel_rfl) ?_
  refine vc_then ?_
  refine vc_seq ?_
  refine vc_seq ?_
  refine vc_region ?_
  refine vp ?_
  refine vp ?_
  refine vc_callv ca_80 (us := []) (vs := []) rfl [_] rfl [1, 0] rfl (ring_floor0 ok) rfl ?_
  rintro _ _ ⟨rfl, rfl⟩
  refine vp ?_
  refine vc_nil ?_
  refine vc_then ?_
  first | refine vc_condP rfl (fun c38 => ?_) (fun c38 => ?_) | refine vc_condN rfl (fun c38 => ?_) (fun c38 => ?_) | refine vc_cond rfl (fun c38 => ?_) (fun c38 => ?_)
  ·skip
   refine vc_seq ?_
   refine vc_region ?_
   refine vp ?_
   refine vp ?_
   refine vc_nil ?_
   refine vc_then ?_
   refine vc_ret ?_
   refine vc_thenRet ?_
   exact vc_end2 Tryz.results95 rfl rfl _ (ent_pick [0, 0] rfl) ⟨by simp only [asOfR]; rw [if_pos c38], rfl⟩
  ·skip
   refine vc_skip ?_
   refine vc_then ?_
   refine vc_seq ?_
   refine vc_region ?_
   iterate 3 refine vp ?_
   refine vc_nil ?_
   refine vc_then ?_
   refine vc_ret ?_
   exact vc_end2 Tryz.results95 rfl rfl _ (ent_pick [0, 0] rfl) ⟨by simp only [asOfR]; rw [if_neg c38], rfl⟩
 ·skip
  have hf : leI R.stamps s = lbI R.stamps s := by rw [hle]; exact if_neg (by rw [c20]; simp)
  refine vc_skip ?_
  refine vc_then ?_
  refine vc_seq ?_
  refine vc_keep [(0, .pointer (some ⟨b, 0, none⟩)), (6, .int .i64 (leI R.stamps s : Int))] ⟨rfl, by rw [hf]; rfl, trivial⟩ ?_
  refine vc_draw (by kernel_rfl) _ none [0, 0] rfl ?_
  refine tpp 0 ?_
  refine tpp 1 ?_
  refine tp 2 rfl (by exact y_fieldP fl_190_2 2 rfl rfl) ?_
  refine tk 3 rfl (by exact y_load1 1 rfl one_3 rfl (Pts.vis rfl)) ?_
  refine tpp 4 ?_
  refine tpp 5 ?_
  refine tp 6 rfl (by exact y_fieldP fl_190_3 3 rfl rfl) ?_
  refine tk 7 rfl (by exact y_load1 1 rfl one_22 rfl (Pts.vis rfl)) ?_
  refine tp 8 rfl (by exact y_len Tryz.underlying22 rfl (by first | assumption | rfl)) ?_
  first | refine tp 9 rfl (by exact y_arith _ rfl (wrap64 (by omega) (by omega))) ?_ | refine tpp 9 ?_
  refine tpp 10 ?_
  first | refine tp 11 rfl (by exact y_arith _ rfl (wrap64 (by omega) (by omega))) ?_ | refine tpp 11 ?_
  refine tpp 12 ?_
  refine va_done (by kernel_rfl) ?_
  refine vc_then ?_
  refine vc_seq ?_
  refine vc_seq ?_
  refine vc_region ?_
  refine vp ?_
  refine vp ?_
  refine vc_callv ca_80 (us := []) (vs := []) rfl [_] rfl [1, 0] rfl (ring_floor0 ok) rfl ?_
  rintro _ _ ⟨rfl, rfl⟩
  refine vp ?_
  refine vc_nil ?_
  refine vc_then ?_
  first | refine vc_condP rfl (fun c38 => ?_) (fun c38 => ?_) | refine vc_condN rfl (fun c38 => ?_) (fun c38 => ?_) | refine vc_cond rfl (fun c38 => ?_) (fun c38 => ?_)
  ·skip
   refine vc_seq ?_
   refine vc_region ?_
   refine vp ?_
   refine vp ?_
   refine vc_nil ?_
   refine vc_then ?_
   refine vc_ret ?_
   refine vc_thenRet ?_
   exact vc_end2 Tryz.results95 rfl rfl _ (ent_pick [0, 0] rfl) ⟨by simp only [asOfR]; rw [if_pos c38], rfl⟩
  ·skip
   refine vc_skip ?_
   refine vc_then ?_
   refine vc_seq ?_
   refine vc_region ?_
   iterate 3 refine vp ?_
   refine vc_nil ?_
   refine vc_then ?_
   refine vc_ret ?_
   exact vc_end2 Tryz.results95 rfl rfl _ (ent_pick [0, 0] rfl) ⟨by simp only [asOfR]; rw [if_neg c38], rfl⟩
theorem ring_new {size seq : Int} (h1 : 1 ≤ size ∧ size ≤ 16) (h2 : 0 ≤ seq ∧ seq ≤ 1073741824) : Does Tryz.prog 114 [.int .i64 size, .int .i64 seq] [] (fun v l => ∃ b, v = .tuple #[.pointer (some ⟨b, 0, none⟩), .int .i64 0] ∧ l = [RingC b ⟨size, seq, seq, []⟩]) := by
 refine spec_of Tryz.func114 rfl Tryz.ntmps114 Tryz.results114 _ (by simp) fun ι F => ?_
 refine vc_seq ?_
 refine vc_region ?_
 refine vp ?_
 refine vp ?_
 refine vc_nil ?_
 refine vc_then ?_
 refine vc_seq ?_
 refine vc_seq ?_
 refine vc_region ?_
 iterate 3 refine vp ?_
 first | refine vc_splitP 8 rfl (fun c8 => ?_) (fun c8 => ?_) | refine vc_splitN 8 rfl (fun c8 => ?_) (fun c8 => ?_) | refine vc_split 8 rfl (fun c8 => ?_) (fun c8 => ?_)
 ·skip
  exact absurd c8 (by omega)
 ·skip
  refine vc_guardT 8 rfl rfl ?_
  refine vp ?_
  refine vc_guardT 8 rfl rfl ?_
  iterate 3 refine vp ?_
  first | refine vc_splitP 12 rfl (fun c12 => ?_) (fun c12 => ?_) | refine vc_splitN 12 rfl (fun c12 => ?_) (fun c12 => ?_) | refine vc_split 12 rfl (fun c12 => ?_) (fun c12 => ?_)
  ·skip
   exact absurd c12 (by omega)
  ·skip
   refine vc_guardT 12 rfl rfl ?_
   refine vp ?_
   refine vc_guardT 12 rfl rfl ?_
   iterate 3 refine vp ?_
   first | refine vc_splitP 16 rfl (fun c16 => ?_) (fun c16 => ?_) | refine vc_splitN 16 rfl (fun c16 => ?_) (fun c16 => ?_) | refine vc_split 16 rfl (fun c16 => ?_) (fun c16 => ?_)
   ·skip
    exact absurd c16 (by omega)
   ·skip
    refine vc_guardT 16 rfl rfl ?_
    refine vp ?_
    refine vc_guardT 16 rfl rfl ?_
    refine vp ?_
    refine vp ?_
    refine vc_nil ?_
    refine vc_then ?_
    first | refine vc_condP rfl (fun c19 => ?_) (fun c19 => ?_) | refine vc_condN rfl (fun c19 => ?_) (fun c19 => ?_) | refine vc_cond rfl (fun c19 => ?_) (fun c19 => ?_)
    ·skip
     exact absurd c19 (by omega)
    ·skip
     refine vc_skip ?_
     refine vc_then ?_
     refine vc_seq ?_
     refine vc_region ?_
     iterate 3 refine vp ?_
     refine vc_y (y_build [(0, _), (1, _), (2, _)] [_, _, _, _] rfl (bu_190_0_1_2 _ _ _ rfl rfl rfl)) rfl ?_
     refine vc_box [_, _, _, _] rfl rfl rfl (fun b24 => ?_)
     refine vp ?_
     refine vp ?_
     refine vc_nil ?_
     refine vc_then ?_
     refine vc_ret ?_
     exact vc_end2 Tryz.results114 rfl rfl _ (show Ent _ (seps [RingC b24 ⟨size, seq, seq, []⟩]) from (Ent.sep Ent.rfl (Ent.empL.trans (Ent.sep Sl.nil Ent.rfl))).trans (ent_RO (b := b24) (R := ⟨size, seq, seq, []⟩) nilS (r := []))) ⟨b24, rfl, rfl⟩
theorem ring_last {b : Nat} {R : RR} (ok : R.ok) : Does Tryz.prog 121 [.pointer (some ⟨b, 0, none⟩)] [RingC b R] (fun v l => v = .int .u64 (lastS R.stamps) ∧ l = [RingC b R]) :=
 ring_does fun hs => (ring_last0 (by have := ok.len; have := ok.s2; omega)).imp fun v l ⟨e, h⟩ => ⟨e, hs, h⟩
theorem ring_seq {b : Nat} {R : RR} : Does Tryz.prog 74 [.pointer (some ⟨b, 0, none⟩)] [RingC b R] (fun v l => v = .int .i64 R.seq ∧ l = [RingC b R]) :=
 ring_does fun hs => ring_seq0.imp fun v l ⟨e, h⟩ => ⟨e, hs, h⟩
theorem ring_floor {b : Nat} {R : RR} (ok : R.ok) : Does Tryz.prog 80 [.pointer (some ⟨b, 0, none⟩)] [RingC b R] (fun v l => v = .int .i64 R.floor ∧ l = [RingC b R]) :=
 ring_does fun hs => (ring_floor0 ok).imp fun v l ⟨e, h⟩ => ⟨e, hs, h⟩
theorem ring_push {b : Nat} {R : RR} (ok : R.ok) (s : Int) : Does Tryz.prog 72 [.pointer (some ⟨b, 0, none⟩), .int .u64 s] [RingC b R] (fun v l => v = .tuple #[.int .i64 (pushR R s).1, .int .i64 (pushR R s).2.1] ∧ l = [RingC b (pushR R s).2.2]) :=
 ring_does fun hs => ring_push0 ok s
theorem ring_asof {b : Nat} {R : RR} (ok : R.ok) (s : Int) : Does Tryz.prog 95 [.pointer (some ⟨b, 0, none⟩), .int .u64 s] [RingC b R] (fun v l => v = .tuple #[.int .i64 (asOfR R s).1, .int .i64 (asOfR R s).2] ∧ l = [RingC b R]) :=
 ring_does fun hs => (ring_asof0 ok s).imp fun v l ⟨e, h⟩ => ⟨e, hs, h⟩
theorem riseI_append {a b : List Int} : RiseI (a ++ b) ↔ RiseI a ∧ RiseI b ∧ ∀ x ∈ a, ∀ y ∈ b, x < y := by
 induction a with
 | nil => simp [RiseI]
 | cons x a ih =>
  simp only [List.cons_append, RiseI, ih, List.mem_append, List.mem_cons]
  constructor
  ·rintro ⟨h1, h2, h3, h4⟩
   exact ⟨⟨fun b hb => h1 b (.inl hb), h2⟩, h3, fun y hy z hz => by
    rcases hy with rfl | hy
    ·exact h1 z (.inr hz)
    ·exact h4 y hy z hz⟩
  ·rintro ⟨⟨h1, h2⟩, h3, h4⟩
   exact ⟨fun b hb => hb.elim (h1 b) (h4 x (.inl rfl) b), h2, h3, fun y hy z hz => h4 y (.inr hy) z hz⟩
theorem riseI_last {l : List Int} (h : RiseI l) {x : Int} (hx : x ∈ l) : x ≤ lastS l := by
 rcases List.eq_nil_or_concat l with e | ⟨a, y, e⟩
 ·rw [e] at hx; cases hx
 ·rw [List.concat_eq_append] at e
  subst e
  have hl : lastS (a ++ [y]) = y := by simp [lastS]
  rw [hl]
  rcases List.mem_append.1 hx with hx | hx
  ·have := (riseI_append.1 h).2.2 x hx y (by simp); omega
  ·simp at hx; omega
theorem riseI_drop {l : List Int} (h : RiseI l) (i : Nat) : RiseI (l.drop i) := by
 rw [← List.take_append_drop i l] at h; exact (riseI_append.1 h).2.1
theorem push_ok {R : RR} (ok : R.ok) (s : Int) : (pushR R s).2.2.ok := by
 obtain ⟨o1, o2, o3, o4, o5, o6, o7, o8⟩ := id ok
 unfold pushR
 split
 ·exact ok
 ·split
  ·exact ok
  ·rename_i h1 h2
   refine ⟨o1, o2, o3, by simp only; omega, by simp only; omega, ?_, ?_, riseI_drop (riseI_append.2 ⟨o8, (show RiseI [s] from ⟨by simp, trivial⟩), fun x hx y hy => ?_⟩) _⟩
   ·simp only [List.length_drop, List.length_append, List.length_singleton]; omega
   ·simp only [List.length_drop, List.length_append, List.length_singleton]; omega
   ·simp at hy
    have := riseI_last o8 hx
    omega
end Go.Proofs.YtcpbibdbahfgaaaGreat
namespace Go.Eng
def ks {β : Type} (m : List (ByteArray × β)) : List ByteArray := m.map (·.1)
theorem rise_append {a b : List ByteArray} : Rise (a ++ b) ↔ Rise a ∧ Rise b ∧ ∀ x ∈ a, ∀ y ∈ b, sLt x y = true := by
 induction a with
 | nil => simp [Rise]
 | cons x a ih =>
  simp only [List.cons_append, Rise, ih, List.mem_append, List.mem_cons]
  constructor
  ·rintro ⟨h1, h2, h3, h4⟩
   exact ⟨⟨fun b hb => h1 b (.inl hb), h2⟩, h3, fun y hy z hz => by
    rcases hy with rfl | hy
    ·exact h1 z (.inr hz)
    ·exact h4 y hy z hz⟩
  ·rintro ⟨⟨h1, h2⟩, h3, h4⟩
   exact ⟨fun b hb => hb.elim (h1 b) (h4 x (.inl rfl) b), h2, h3, fun y hy z hz => h4 y (.inr hy) z hz⟩
theorem lb_left {a b : List ByteArray} {k : ByteArray} (h : ∀ x ∈ b, sLt x k = false) : lb (a ++ b) k = lb a k := by
 induction a with
 | nil =>
  cases b with
  | nil => rfl
  | cons x b => simp [lb, h x (by simp)]
 | cons x a ih => simp only [List.cons_append, lb, ih]
theorem lb_right {a b : List ByteArray} {k : ByteArray} (h : ∀ x ∈ a, sLt x k = true) : lb (a ++ b) k = a.length + lb b k := by
 induction a with
 | nil => simp
 | cons x a ih =>
  simp only [List.cons_append, lb, h x (by simp), if_true, List.length_cons]
  rw [ih (fun y hy => h y (by simp [hy]))]; omega
theorem lb_zero {a : List ByteArray} {k : ByteArray} (h : ∀ x ∈ a, sLt x k = false) : lb a k = 0 := by
 have := lb_left (a := []) h
 simpa [lb] using this
theorem lb_all {a : List ByteArray} {k : ByteArray} (h : ∀ x ∈ a, sLt x k = true) : lb a k = a.length := by
 have := lb_right (b := []) h
 simpa [lb] using this
theorem fnd_iff {l : List ByteArray} (hr : Rise l) {k : ByteArray} : fnd l k = true ↔ k ∈ l := by
 induction l with
 | nil => simp [fnd, lb]
 | cons a l ih =>
  by_cases h : sLt a k = true
  ·have e : fnd (a :: l) k = fnd l k := by simp [fnd, lb, h]
   rw [e, ih hr.2, List.mem_cons]
   exact ⟨.inr, fun h' => h'.elim (fun h0 => absurd (by rw [h0]) (fun e2 : k = a => by rw [e2, sLt_irrefl] at h; cases h)) id⟩
  ·have h0 : sLt a k = false := by simpa using h
   have e : fnd (a :: l) k = sEq a k := by simp [fnd, lb, h0]
   rw [e, sEq_iff, List.mem_cons]
   constructor
   ·exact fun h' => .inl h'.symm
   ·rintro (h' | h')
    ·exact h'.symm
    ·rw [hr.1 k h'] at h0; cases h0
theorem lb_get {l : List ByteArray} (hr : Rise l) {k : ByteArray} (h : k ∈ l) : l[lb l k]? = some k := by
 have := (fnd_iff hr).2 h
 simp only [fnd] at this
 split at this
 ·rename_i x hx; rw [hx, sEq_iff.1 this]
 ·cases this
section
variable {β : Type}
def ins (m : List (ByteArray × β)) (k : ByteArray) (n : β) : List (ByteArray × β) := m.take (lb (ks m) k) ++ (k, n) :: m.drop (lb (ks m) k)
def dlt (m : List (ByteArray × β)) (k : ByteArray) : List (ByteArray × β) := m.take (lb (ks m) k) ++ m.drop (lb (ks m) k + 1)
def put1 (m : List (ByteArray × β)) (k : ByteArray) (n : β) : List (ByteArray × β) := m.set (lb (ks m) k) (k, n)
def look (m : List (ByteArray × β)) (k : ByteArray) : Option β := if fnd (ks m) k then (m[lb (ks m) k]?).map (·.2) else none
def nxt (m : List (ByteArray × β)) (k : ByteArray) (above : Bool) : Option (ByteArray × β) := m[if fnd (ks m) k && above then lb (ks m) k + 1 else lb (ks m) k]?
variable {A M B : List (ByteArray × β)} {k : ByteArray} {n : β}
theorem ks_append : ks (A ++ B) = ks A ++ ks B := by simp [ks]
theorem ks_length : (ks A).length = A.length := by simp [ks]
theorem lb_mid (hA : ∀ x ∈ ks A, sLt x k = true) (hB : ∀ x ∈ ks B, sLt x k = false) : lb (ks (A ++ (M ++ B))) k = A.length + lb (ks M) k := by
 rw [ks_append, lb_right hA, ks_append, lb_left hB, ks_length]
theorem ins_mid (hA : ∀ x ∈ ks A, sLt x k = true) (hB : ∀ x ∈ ks B, sLt x k = false) : ins (A ++ (M ++ B)) k n = A ++ (ins M k n ++ B) := by
 have hl : lb (ks M) k ≤ M.length := by have := lb_le (ks M) k; rwa [ks_length] at this
 unfold ins
 rw [lb_mid hA hB, List.take_length_add_append, List.drop_length_add_append, List.take_append_of_le_length hl, List.drop_append_of_le_length hl]
 simp
theorem dlt_mid (hA : ∀ x ∈ ks A, sLt x k = true) (hB : ∀ x ∈ ks B, sLt x k = false) (hM : lb (ks M) k < M.length) : dlt (A ++ (M ++ B)) k = A ++ (dlt M k ++ B) := by
 unfold dlt
 rw [lb_mid hA hB, List.take_length_add_append, Nat.add_assoc, List.drop_length_add_append, List.take_append_of_le_length (by omega), List.drop_append_of_le_length (by omega)]
 simp
theorem lb_take {l : List ByteArray} (hr : Rise l) {k : ByteArray} : ∀ x ∈ l.take (lb l k), sLt x k = true := by
 induction l with
 | nil => simp
 | cons a l ih =>
  by_cases h : sLt a k = true
  ·simp only [lb, h, if_true, List.take_succ_cons, List.mem_cons]
   rintro x (rfl | hx)
   ·exact h
   ·exact ih hr.2 x hx
  ·simp [lb, h]
theorem lb_drop {l : List ByteArray} (hr : Rise l) {k : ByteArray} : ∀ x ∈ l.drop (lb l k), sLt x k = false := by
 induction l with
 | nil => simp
 | cons a l ih =>
  by_cases h : sLt a k = true
  ·simp only [lb, h, if_true, List.drop_succ_cons]
   exact ih hr.2
  ·have h0 : sLt a k = false := by simpa using h
   simp only [lb, h0, Bool.false_eq_true, if_false, List.drop_zero, List.mem_cons]
   rintro x (rfl | hx)
   ·exact h0
   ·cases hq : sLt x k with
    | false => rfl
    | true => rw [sLt_trans (hr.1 x hx) hq] at h0; cases h0
theorem ks_ins : ks (ins M k n) = (ks M).take (lb (ks M) k) ++ k :: (ks M).drop (lb (ks M) k) := by simp [ins, ks, List.map_take, List.map_drop]
theorem ks_dlt : ks (dlt M k) = (ks M).take (lb (ks M) k) ++ (ks M).drop (lb (ks M) k + 1) := by simp [dlt, ks, List.map_take, List.map_drop]
theorem mem_ins {x : ByteArray} : x ∈ ks (ins M k n) ↔ x = k ∨ x ∈ ks M := by
 rw [ks_ins]
 conv => rhs; rw [← List.take_append_drop (lb (ks M) k) (ks M)]
 simp only [List.mem_append, List.mem_cons]
 constructor
 ·rintro (h | h | h)
  ·exact .inr (.inl h)
  ·exact .inl h
  ·exact .inr (.inr h)
 ·rintro (h | h | h)
  ·exact .inr (.inl h)
  ·exact .inl h
  ·exact .inr (.inr h)
theorem mem_dlt {x : ByteArray} (h : x ∈ ks (dlt M k)) : x ∈ ks M := by
 rw [ks_dlt, List.mem_append] at h
 rcases h with h | h
 ·exact List.mem_of_mem_take h
 ·exact List.mem_of_mem_drop h
theorem rise_take {l : List ByteArray} (hr : Rise l) (i : Nat) : Rise (l.take i) := by
 rw [← List.take_append_drop i l] at hr; exact (rise_append.1 hr).1
theorem rise_drop {l : List ByteArray} (hr : Rise l) (i : Nat) : Rise (l.drop i) := by
 rw [← List.take_append_drop i l] at hr; exact (rise_append.1 hr).2.1
theorem rise_insL {l : List ByteArray} (hr : Rise l) {k : ByteArray} (hk : k ∉ l) : Rise (l.take (lb l k) ++ k :: l.drop (lb l k)) := by
 refine rise_append.2 ⟨rise_take hr _, ⟨fun b hb => ?_, rise_drop hr _⟩, fun x hx y hy => ?_⟩
 ·rcases not_sLt (lb_drop hr b hb) with h | h
  ·exact absurd (h ▸ List.mem_of_mem_drop hb) hk
  ·exact h
 ·rcases List.mem_cons.1 hy with rfl | hy
  ·exact lb_take hr x hx
  ·rw [← List.take_append_drop (lb l k) l] at hr
   exact (rise_append.1 hr).2.2 x hx y hy
theorem rise_ins (hr : Rise (ks M)) (hk : k ∉ ks M) : Rise (ks (ins M k n)) := by rw [ks_ins]; exact rise_insL hr hk
theorem rise_cut {l : List ByteArray} (hr : Rise l) (i j : Nat) (h : i ≤ j) : Rise (l.take i ++ l.drop j) := by
 have h1 := hr
 rw [← List.take_append_drop i l] at h1
 have h2 := rise_append.1 h1
 have hs : ∀ y ∈ l.drop j, y ∈ l.drop i := fun y hy => by
  have : l.drop j = (l.drop i).drop (j - i) := by rw [List.drop_drop]; congr 1; omega
  rw [this] at hy; exact List.mem_of_mem_drop hy
 exact rise_append.2 ⟨h2.1, rise_drop hr _, fun x hx y hy => h2.2.2 x hx y (hs y hy)⟩
theorem rise_dlt (hr : Rise (ks M)) : Rise (ks (dlt M k)) := by rw [ks_dlt]; exact rise_cut hr _ _ (by omega)
theorem ks_zip {l : List ByteArray} {v : List β} (h : v.length = l.length) : ks (l.zip v) = l := by
 unfold ks; exact List.map_fst_zip (by omega)
theorem ins_zip {l : List ByteArray} {v : List β} (h : v.length = l.length) : ins (l.zip v) k n = (l.take (lb l k) ++ k :: l.drop (lb l k)).zip (v.take (lb l k) ++ n :: v.drop (lb l k)) := by
 unfold ins
 rw [ks_zip h, List.zip_append (by simp [h]), List.zip_cons_cons]
 simp [List.zip, List.take_zipWith, List.drop_zipWith]
theorem dlt_zip {l : List ByteArray} {v : List β} (h : v.length = l.length) : dlt (l.zip v) k = (l.take (lb l k) ++ l.drop (lb l k + 1)).zip (v.take (lb l k) ++ v.drop (lb l k + 1)) := by
 unfold dlt
 rw [ks_zip h, List.zip_append (by simp [h])]
 simp [List.zip, List.take_zipWith, List.drop_zipWith]
theorem ins_len : (ins M k n).length = M.length + 1 := by
 have hl : lb (ks M) k ≤ M.length := by have := lb_le (ks M) k; rwa [ks_length] at this
 simp [ins]; omega
theorem fnd_lt0 {l : List ByteArray} (h : fnd l k = true) : lb l k < l.length := by
 simp only [fnd] at h
 split at h
 ·rename_i hx; exact (List.getElem?_eq_some_iff.1 hx).1
 ·cases h
theorem fnd_mid (hA : ∀ x ∈ ks A, sLt x k = true) (hB : ∀ x ∈ ks B, sLt k x = true) : fnd (ks (A ++ (M ++ B))) k = fnd (ks M) k := by
 have hB' : ∀ x ∈ ks B, sLt x k = false := fun x hx => sLt_asymm (hB x hx)
 have hl := lb_le (ks M) k
 unfold fnd
 rw [lb_mid hA hB', ks_append, ks_append, ← ks_length (A := A), List.getElem?_append_right (by omega), Nat.add_sub_cancel_left]
 by_cases h : lb (ks M) k < (ks M).length
 ·rw [List.getElem?_append_left h]
 ·rw [List.getElem?_append_right (by omega), List.getElem?_eq_none (l := ks M) (by omega)]
  cases hb : (ks B)[lb (ks M) k - (ks M).length]? with
  | none => rfl
  | some x => exact sEq_false.2 fun e => sLt_ne (hB x (List.mem_of_getElem? hb)) e.symm
theorem look_mid (hA : ∀ x ∈ ks A, sLt x k = true) (hB : ∀ x ∈ ks B, sLt k x = true) : look (A ++ (M ++ B)) k = look M k := by
 have hB' : ∀ x ∈ ks B, sLt x k = false := fun x hx => sLt_asymm (hB x hx)
 unfold look
 rw [fnd_mid hA hB, lb_mid hA hB']
 cases h : fnd (ks M) k with
 | false => rfl
 | true =>
  have hlt := fnd_lt0 h
  rw [ks_length] at hlt
  rw [List.getElem?_append_right (by omega), Nat.add_sub_cancel_left, List.getElem?_append_left hlt]
theorem put1_mid (hA : ∀ x ∈ ks A, sLt x k = true) (hB : ∀ x ∈ ks B, sLt k x = true) (hf : fnd (ks M) k = true) : put1 (A ++ (M ++ B)) k n = A ++ (put1 M k n ++ B) := by
 have hB' : ∀ x ∈ ks B, sLt x k = false := fun x hx => sLt_asymm (hB x hx)
 have hlt := fnd_lt0 hf
 rw [ks_length] at hlt
 unfold put1
 rw [lb_mid hA hB', List.set_append_right _ _ (by omega), Nat.add_sub_cancel_left, List.set_append_left _ _ hlt]
theorem look_zip {l : List ByteArray} {v : List β} (h : v.length = l.length) : look (l.zip v) k = if fnd l k then v[lb l k]? else none := by
 unfold look
 rw [ks_zip h]
 cases hf : fnd l k with
 | false => rfl
 | true =>
  have hlt := fnd_lt0 hf
  simp only [if_true]
  rw [List.getElem?_eq_getElem (by simp [h]; exact hlt), List.getElem?_eq_getElem (by omega)]
  simp
theorem nxt_mid (hA : ∀ x ∈ ks A, sLt x k = true) (hB : ∀ x ∈ ks B, sLt k x = true) (ab : Bool) : nxt (A ++ (M ++ B)) k ab = match nxt M k ab with | some q => some q | none => B[0]? := by
 have hB' : ∀ x ∈ ks B, sLt x k = false := fun x hx => sLt_asymm (hB x hx)
 unfold nxt
 rw [fnd_mid hA hB, lb_mid hA hB']
 have key : ∀ j, j ≤ M.length → (A ++ (M ++ B))[A.length + j]? = match M[j]? with | some q => some q | none => B[0]? := by
  intro j hj
  rw [List.getElem?_append_right (by omega), Nat.add_sub_cancel_left]
  by_cases h : j < M.length
  ·rw [List.getElem?_append_left h, List.getElem?_eq_getElem h]
  ·rw [List.getElem?_append_right (by omega), List.getElem?_eq_none (l := M) (by omega), show j - M.length = 0 by omega]
 have hl : lb (ks M) k ≤ M.length := by have := lb_le (ks M) k; rwa [ks_length] at this
 cases hf : fnd (ks M) k && ab with
 | false => simpa using key _ hl
 | true =>
  have hlt := fnd_lt0 (by simp at hf; exact hf.1)
  rw [ks_length] at hlt
  simp only [if_true]
  rw [Nat.add_assoc]
  exact key _ (by omega)
end
end Go.Eng
namespace Go.Proofs.YtcpbibdbahfgaaaGreat
open Go.Eng
namespace FSl3
theorem el_136_eStr : TyEl Tryz.prog 136 eStr 16 := ⟨Tryz.underlying136, .string ⟨#[]⟩, by kernel_rfl, rfl⟩
theorem ze_9 : (Tryz.prog.info? 9).map (·.zero) = some (some (.string ⟨#[]⟩)) := by kernel_rfl
theorem sl_136 : TySl Tryz.prog 136 9 1 := ⟨Tryz.underlying136, by kernel_rfl⟩
theorem el_72_eInt : TyEl Tryz.prog 72 eInt 8 := ⟨Tryz.underlying72, .int .i64 0, by kernel_rfl, rfl⟩
theorem ze_3 : (Tryz.prog.info? 3).map (·.zero) = some (some (.int .i64 0)) := by kernel_rfl
theorem sl_72 : TySl Tryz.prog 72 3 1 := ⟨Tryz.underlying72, by kernel_rfl⟩
theorem el_72_eNat : TyEl Tryz.prog 72 eNat 8 := ⟨Tryz.underlying72, .int .i64 0, by kernel_rfl, rfl⟩
end FSl3
open FSl3
theorem insS_spec {h hv : SH} {xs : List ByteArray} {i : Nat} {y : ByteArray} (hi : i ≤ xs.length) (hb : xs.length ≤ 1000000) :
  Does Tryz.prog 193 [h.v, .int .i64 (i : Int), hv.v] [Sl eStr h xs, Sl eStr hv [y]] (fun v l => ∃ h', v = h'.v ∧ l = [Sl eStr h' (xs.take i ++ y :: xs.drop i)]) := by
 refine spec_of Tryz.func193 rfl Tryz.ntmps193 Tryz.results193 _ (by simp) fun ι F => ?_
 refine vc_see 0 rfl (Sl.vis.imp fun w r => (⟨r.len, r.cap⟩ : h.len = xs.length ∧ xs.length ≤ h.cap)) (fun hlc => ?_)
 obtain ⟨hlen, hcap⟩ := hlc
 refine vc_see 1 rfl (Sl.vis.imp fun w r => (⟨r.len, r.cap⟩ : hv.len = 1 ∧ 1 ≤ hv.cap)) (fun hlc => ?_)
 obtain ⟨hva, hvl, hvc⟩ := hv
 obtain ⟨hvl0, hvcap⟩ := hlc
 simp only [] at hvl0 hvcap
 subst hvl0
 refine vc_seq ?_
 refine vc_region ?_
 refine vp ?_
 refine vc_nil ?_
 refine vc_then ?_
 refine vc_seq ?_
 refine vc_region ?_
 refine vp ?_
 refine vp ?_
 refine vc_y (y_slice sl_136 rfl i h.len h.cap ⟨_, _, rfl, rfl⟩ rfl rfl (by simp) (by omega) (by omega) (by omega)) rfl ?_
 refine vc_nil ?_
 refine vc_then ?_
 refine vc_seq ?_
 refine vc_region ?_
 refine vp ?_
 refine vc_y (y_len Tryz.underlying136 rfl (show 1 = 1 from rfl)) rfl ?_
 refine vp ?_
 refine vc_nil ?_
 refine vc_then ?_
 refine vc_seq ?_
 refine vc_seq ?_
 refine vc_region ?_
 refine vp ?_
 refine vp ?_
 refine vc_nil ?_
 refine vc_then ?_
 first | refine vc_condP rfl (fun c16 => ?_) (fun c16 => ?_) | refine vc_condN rfl (fun c16 => ?_) (fun c16 => ?_) | refine vc_cond rfl (fun c16 => ?_) (fun c16 => ?_)
 ·skip
  simp at c16
  done
 ·skip
  refine vc_skip ?_
  refine vc_then ?_
  refine vc_seq ?_
  refine vc_region ?_
  refine vp ?_
  refine vc_y (y_len Tryz.underlying136 rfl hlen) rfl ?_
  refine vp ?_
  refine vc_nil ?_
  refine vc_then ?_
  refine vc_seq ?_
  refine vc_seq ?_
  refine vc_region ?_
  iterate 3 refine vp ?_
  refine vc_nil ?_
  refine vc_then ?_
  first | refine vc_condP rfl (fun c22 => ?_) (fun c22 => ?_) | refine vc_condN rfl (fun c22 => ?_) (fun c22 => ?_) | refine vc_cond rfl (fun c22 => ?_) (fun c22 => ?_)
  ·skip
   obtain rfl : i = xs.length := by omega
   refine vc_seq ?_
   refine vc_region ?_
   refine vp ?_
   refine vp ?_
   refine vc_append 0 rfl 1 rfl (Sl.vis) el_136_eStr Tryz.underlying136 rfl rfl (by simp; omega) (by simp; omega) rfl (fun h25 => ?_)
   refine vp ?_
   refine vc_nil ?_
   refine vc_then ?_
   refine vc_ret ?_
   refine vc_thenRet ?_
   exact vc_end1 Tryz.results193 rfl _ (ent_pick [0] rfl) ⟨h25, rfl, by simp⟩
  ·skip
   have hi2 : i < xs.length := by omega
   refine vc_skip ?_
   refine vc_then ?_
   refine vc_seq ?_
   refine vc_seq ?_
   refine vc_region ?_
   refine vp ?_
   refine vp ?_
   first | refine vc_y (y_arith _ rfl (wrap64 (by omega) (by omega))) rfl ?_ | refine vp ?_
   refine vp ?_
   refine vc_y (y_cap Tryz.underlying136 rfl) rfl ?_
   refine vp ?_
   refine vc_nil ?_
   refine vc_then ?_
   first | refine vc_condP rfl (fun c31 => ?_) (fun c31 => ?_) | refine vc_condN rfl (fun c31 => ?_) (fun c31 => ?_) | refine vc_cond rfl (fun c31 => ?_) (fun c31 => ?_)
   ·skip
    refine vc_seq ?_
    refine vc_region ?_
    refine vp ?_
    refine vp ?_
    refine vc_y (y_slice sl_136 rfl 0 i h.cap rfl ⟨_, _, rfl, rfl⟩ rfl (by simp) (by omega) (by omega) (by omega)) rfl ?_
    refine vp ?_
    refine vp ?_
    first | refine vc_y (y_arith _ rfl (wrap64 (by omega) (by omega))) rfl ?_ | refine vp ?_
    refine vp ?_
    first | refine vc_y (y_arith _ rfl (wrap64 (by omega) (by omega))) rfl ?_ | refine vp ?_
    refine vc_appendZ 0 rfl (E := eStr) (h := h.cut (Enc.sz eStr) 0 i h.cap) (xs := xs.take i) (Sl.vis.imp fun w r => r.cutL hi) (⟨#[]⟩ : ByteArray) el_136_eStr Tryz.underlying3 ze_9 rfl rfl (xs.length + 1 - i) rfl (by omega) (by simp [SH.cut]; omega) (by simp; omega) (by simp; omega) rfl (fun h40 hh40 => ?_)
    refine vp ?_
    refine vc_nil ?_
    refine vc_then ?_
    refine vc_seq ?_
    refine vc_region ?_
    have hL : (xs.take i ++ List.replicate (xs.length + 1 - i) (⟨#[]⟩ : ByteArray)).length = xs.length + 1 := by simp; omega
    have hL2 : (xs.take i).length = i := by simp; omega
    refine vc_open 0 rfl (by omega) (fun b pre post hh hc2 hpost => ?_)
    obtain ⟨hha, hhl, hhc⟩ := h40
    simp only [SH.mk.injEq] at hh
    obtain ⟨rfl, rfl, _⟩ := hh
    simp only [] at hh40 hc2 hpost
    have hbd := Nat.mul_le_mul_right (Enc.sz eStr) (show i + 1 ≤ xs.length + 1 by omega)
    have hbd2 := Nat.mul_le_mul_right (Enc.sz eStr) (show (i + 1) + (xs.length - i) ≤ xs.length + 1 by omega)
    rw [Nat.add_mul, Nat.one_mul] at hbd
    rw [Nat.add_mul] at hbd2
    refine vp ?_
    refine vp ?_
    refine vc_y (y_sliceR sl_136 rfl i (xs.take i ++ List.replicate (xs.length + 1 - i) (⟨#[]⟩ : ByteArray)).length hhc (pre.length + i * Enc.sz eStr) (xs.length + 1 - i) _ ⟨_, _, rfl, rfl⟩ rfl rfl (by simp) (by omega) (by omega) (Nat.le_refl _) (by omega) rfl (by omega) rfl) rfl ?_
    refine vp ?_
    refine vc_copyRaw 0 rfl (E := eStr) [y] 2 rfl Sl.vis sl_136 rfl rfl 1 (minL (by omega)) rfl (by simp only [List.length_append, flat_length, hL] at *; omega) rfl ?_
    refine vc_cells 0 (pre ++ flat eStr (over (xs.take i ++ List.replicate (xs.length + 1 - i) (⟨#[]⟩ : ByteArray)) i [y]) ++ post) rfl (by rw [splice_flat eStr (by omega), hL, show i + [y].length - (xs.length + 1) = 0 by simp; omega]; simp) ?_
    refine vc_nil ?_
    refine vc_then ?_
    refine vc_seq ?_
    refine vc_draw (by kernel_rfl) _ none [] rfl ?_
    refine tpp 0 ?_
    refine tpp 1 ?_
    refine tpp 2 ?_
    first | refine tp 3 rfl (by exact y_arith _ rfl (wrap64 (by omega) (by omega))) ?_ | refine tpp 3 ?_
    refine tp 4 rfl (by exact y_sliceR sl_136 rfl (i + 1) (xs.take i ++ List.replicate (xs.length + 1 - i) (⟨#[]⟩ : ByteArray)).length hhc (pre.length + (i + 1) * Enc.sz eStr) (xs.length - i) _ ⟨_, _, rfl, rfl⟩ rfl rfl (by simp) (by omega) (by omega) (Nat.le_refl _) (by omega) rfl (by omega) rfl) ?_
    refine tpp 5 ?_
    refine tpp 6 ?_
    refine tp 7 rfl (by exact y_slice sl_136 rfl i h.len h.cap ⟨_, _, rfl, rfl⟩ rfl rfl (by simp) (by omega) (by omega) (by omega)) ?_
    refine va_ready [8] (by kernel_rfl) rfl ?_
    refine vo_cons rfl (fun hC0 => ?_) ?_
    ·skip
     refine vc_copyRaw 0 rfl (E := eStr) (xs.drop i) 1 rfl (Sl.vis.imp fun w r => (r.cutD hi).re) sl_136 rfl rfl (xs.length - i) (minR (show xs.length - i ≤ h.len - i by omega)) (by simp) (by simp only [List.length_append, flat_length, over_len (show i ≤ (xs.take i ++ List.replicate (xs.length + 1 - i) (⟨#[]⟩ : ByteArray)).length by omega), hL, List.length_singleton]; have := Nat.mul_le_mul_right (Enc.sz eStr) (Nat.le_max_left (xs.length + 1) (i + 1)); omega) rfl ?_
     refine vc_cells 0 (pre ++ flat eStr (xs.take i ++ y :: xs.drop i) ++ post) rfl (by rw [splice_flat eStr (by rw [over_len (by omega), hL]; omega), over_new y _ hi2, over_len (by omega), hL, List.length_drop, show i + 1 + (xs.length - i) - max (xs.length + 1) (i + [y].length) = 0 by simp; omega]; simp) ?_
     refine vc_turn 0 rfl (Sl eStr ⟨some ⟨b, pre.length, none⟩, (xs.take i ++ List.replicate (xs.length + 1 - i) (⟨#[]⟩ : ByteArray)).length, hhc⟩ (xs.take i ++ y :: xs.drop i)) (VS.of_ent (sl_close rfl (by simp; omega) (by rw [show (xs.take i ++ y :: xs.drop i).length = xs.length + 1 by simp; omega]; rw [hL] at hpost; exact hpost) (by rw [hL]; simp; omega))) ?_
     refine vc_nil ?_
     refine vc_then ?_
     refine va_kept hC0 [] rfl ?_
     refine va_done (by kernel_rfl) ?_
     refine vc_then ?_
     refine vc_seq ?_
     refine vc_region ?_
     refine vp ?_
     refine vp ?_
     refine vc_nil ?_
     refine vc_then ?_
     refine vc_ret ?_
     refine vc_thenRet ?_
     exact vc_end1 Tryz.results193 rfl _ (ent_pick [0] rfl) ⟨_, rfl, rfl⟩
    exact vo_nil
   ·skip
    refine vc_skip ?_
    refine vc_then ?_
    refine vc_seq ?_
    refine vc_region ?_
    have hcap1 : xs.length + 1 ≤ h.cap := by omega
    refine vc_open 0 rfl (by omega) (fun b pre post hh hc2 hpost => ?_)
    refine vc_open 1 rfl (by exact hvcap) (fun b2 pre2 post2 hh2 hc22 hpost2 => ?_)
    obtain ⟨hha, hhl, hhc⟩ := h
    simp only [SH.mk.injEq] at hh
    obtain ⟨rfl, rfl, _⟩ := hh
    simp only [] at hlen hcap hcap1 hc2 hpost
    simp only [SH.mk.injEq] at hh2
    obtain ⟨rfl, _, _⟩ := hh2
    have hbd := Nat.mul_le_mul_right (Enc.sz eStr) (show 1 ≤ hhc - xs.length by omega)
    have hbd2 := Nat.mul_le_mul_right (Enc.sz eStr) (show (i + 1) + (xs.length - i) ≤ xs.length + 1 by omega)
    have hbd3 := Nat.mul_le_mul_right (Enc.sz eStr) (show i + 1 ≤ xs.length by omega)
    rw [Nat.add_mul] at hbd2
    rw [Nat.add_mul] at hbd3
    rw [Nat.add_mul xs.length] at hbd2
    have hne : (pre ++ flat eStr xs ++ post).isEmpty = false := by
     rw [List.isEmpty_eq_false_iff_exists_mem]
     have h3 := Nat.mul_pos (show 0 < xs.length by omega) (eStr).pos
     exact List.exists_mem_of_length_pos (by simp only [List.length_append, flat_length]; omega)
    iterate 3 refine vp ?_
    first | refine vc_y (y_arith _ rfl (wrap64 (by omega) (by omega))) rfl ?_ | refine vp ?_
    refine vc_y (y_sliceR sl_136 rfl 0 (xs.length + 1) hhc pre.length (xs.length + 1) hhc rfl ⟨_, _, rfl, rfl⟩ rfl (by simp) (by omega) (by omega) (by omega) (by omega) (by simp) (by omega) rfl) rfl ?_
    refine vp ?_
    refine vc_nil ?_
    refine vc_then ?_
    refine vc_seq ?_
    refine vc_seq ?_
    refine vc_region ?_
    iterate 4 refine vp ?_
    first | refine vc_y (y_arith _ rfl (wrap64 (by omega) (by omega))) rfl ?_ | refine vp ?_
    refine vc_y (y_sliceR sl_136 rfl (i + 1) (xs.length + 1) hhc (pre.length + (i + 1) * Enc.sz eStr) (xs.length - i) _ ⟨_, _, rfl, rfl⟩ rfl rfl (by simp) (by omega) (by omega) (by omega) (by omega) rfl (by omega) rfl) rfl ?_
    refine vc_y (by exact y_overlaps (tR := 4) (f := 223) Tryz.func223 rfl (by kernel_rfl) (by kernel_rfl) (by kernel_rfl) sl_136 1 0 rfl rfl rfl hne rfl rfl rfl) rfl ?_
    refine vp ?_
    refine vc_nil ?_
    refine vc_then ?_
    refine vc_condT rfl ?_
    refine vc_seq ?_
    refine vc_draw (by kernel_rfl) _ none [] rfl ?_
    refine tpp 0 ?_
    refine tpp 1 ?_
    refine tpp 2 ?_
    first | refine tp 3 rfl (by exact y_arith _ rfl (wrap64 (by omega) (by omega))) ?_ | refine tpp 3 ?_
    refine tp 4 rfl (by exact y_sliceR sl_136 rfl (i + 1) (xs.length + 1) hhc (pre.length + (i + 1) * Enc.sz eStr) (xs.length - i) _ ⟨_, _, rfl, rfl⟩ rfl rfl (by simp) (by omega) (by omega) (by omega) (by omega) rfl (by omega) rfl) ?_
    refine tpp 5 ?_
    refine tpp 6 ?_
    refine tp 7 rfl (by exact y_sliceR sl_136 rfl i (xs.length + 1) hhc (pre.length + i * Enc.sz eStr) (xs.length + 1 - i) (hhc - i) ⟨_, _, rfl, rfl⟩ rfl rfl (by simp) (by omega) (by omega) (by omega) (by omega) rfl (by omega) rfl) ?_
    refine va_ready [8] (by kernel_rfl) rfl ?_
    refine vo_cons rfl (fun hC0 => ?_) ?_
    ·skip
     refine vc_copyRaw 0 rfl (E := eStr) (xs.drop i) 0 rfl (Pts.rdR (xs.drop i) i takeAll rfl rfl (by simp; omega)) sl_136 rfl rfl (xs.length - i) (minR (by omega)) (by simp) (by simp only [List.length_append, flat_length]; omega) rfl ?_
     refine vc_cells 0 (pre ++ flat eStr (over xs (i + 1) (xs.drop i)) ++ post.drop (Enc.sz eStr)) rfl (by rw [splice_flat eStr (by omega), List.length_drop, show i + 1 + (xs.length - i) - xs.length = 1 by omega, Nat.one_mul]) ?_
     refine vc_nil ?_
     refine vc_then ?_
     refine va_kept hC0 [] rfl ?_
     refine va_done (by kernel_rfl) ?_
     refine vc_then ?_
     refine vc_seq ?_
     refine vc_region ?_
     refine vp ?_
     refine vp ?_
     refine vc_y (y_sliceR sl_136 rfl i (xs.length + 1) hhc (pre.length + i * Enc.sz eStr) (xs.length + 1 - i) (hhc - i) ⟨_, _, rfl, rfl⟩ rfl rfl (by simp) (by omega) (by omega) (by omega) (by omega) rfl (by omega) rfl) rfl ?_
     refine vp ?_
     refine vc_copyRaw 0 rfl (E := eStr) [y] 1 rfl (Pts.rd hc22) sl_136 rfl rfl 1 (minL (by omega)) rfl (by simp only [List.length_append, flat_length, over_len (show i + 1 ≤ xs.length by omega), List.length_drop]; have := Nat.mul_le_mul_right (Enc.sz eStr) (Nat.le_max_left xs.length (i + 1 + (xs.length - i))); omega) rfl ?_
     refine vc_cells 0 (pre ++ flat eStr (xs.take i ++ y :: xs.drop i) ++ post.drop (Enc.sz eStr)) rfl (by rw [splice_flat eStr (by rw [over_len (by omega)]; omega), over_ins y hi2, over_len (by omega), List.length_drop, show i + [y].length - max xs.length (i + 1 + (xs.length - i)) = 0 by simp; omega]; simp) ?_
     refine vc_turn 0 rfl (Sl eStr ⟨some ⟨b, pre.length, none⟩, xs.length + 1, hhc⟩ (xs.take i ++ y :: xs.drop i)) (VS.of_ent (sl_close rfl (by simp; omega) (by rw [show (xs.take i ++ y :: xs.drop i).length = xs.length + 1 by simp; omega, List.length_drop]; have : (hhc - (xs.length + 1)) * Enc.sz eStr + 1 * Enc.sz eStr ≤ (hhc - xs.length) * Enc.sz eStr := (by rw [← Nat.add_mul]; exact Nat.mul_le_mul_right _ (by omega)); omega) (by simp; omega))) ?_
     refine vc_nil ?_
     refine vc_then ?_
     refine vc_seq ?_
     refine vc_region ?_
     refine vp ?_
     refine vp ?_
     refine vc_nil ?_
     refine vc_then ?_
     refine vc_ret ?_
     refine vc_thenRet ?_
     exact vc_end1 Tryz.results193 rfl _ (ent_pick [0] rfl) ⟨_, rfl, rfl⟩
    exact vo_nil
theorem insI_spec {h hv : SH} {xs : List Int} {i : Nat} {y : Int} (hi : i ≤ xs.length) (hb : xs.length ≤ 1000000) :
  Does Tryz.prog 194 [h.v, .int .i64 (i : Int), hv.v] [Sl eInt h xs, Sl eInt hv [y]] (fun v l => ∃ h', v = h'.v ∧ l = [Sl eInt h' (xs.take i ++ y :: xs.drop i)]) := by
 refine spec_of Tryz.func194 rfl Tryz.ntmps194 Tryz.results194 _ (by simp) fun ι F => ?_
 refine vc_see 0 rfl (Sl.vis.imp fun w r => (⟨r.len, r.cap⟩ : h.len = xs.length ∧ xs.length ≤ h.cap)) (fun hlc => ?_)
 obtain ⟨hlen, hcap⟩ := hlc
 refine vc_see 1 rfl (Sl.vis.imp fun w r => (⟨r.len, r.cap⟩ : hv.len = 1 ∧ 1 ≤ hv.cap)) (fun hlc => ?_)
 obtain ⟨hva, hvl, hvc⟩ := hv
 obtain ⟨hvl0, hvcap⟩ := hlc
 simp only [] at hvl0 hvcap
 subst hvl0
 refine vc_seq ?_
 refine vc_region ?_
 refine vp ?_
 refine vc_nil ?_
 refine vc_then ?_
 refine vc_seq ?_
 refine vc_region ?_
 refine vp ?_
 refine vp ?_
 refine vc_y (y_slice sl_72 rfl i h.len h.cap ⟨_, _, rfl, rfl⟩ rfl rfl (by simp) (by omega) (by omega) (by omega)) rfl ?_
 refine vc_nil ?_
 refine vc_then ?_
 refine vc_seq ?_
 refine vc_region ?_
 refine vp ?_
 refine vc_y (y_len Tryz.underlying72 rfl (show 1 = 1 from rfl)) rfl ?_
 refine vp ?_
 refine vc_nil ?_
 refine vc_then ?_
 refine vc_seq ?_
 refine vc_seq ?_
 refine vc_region ?_
 refine vp ?_
 refine vp ?_
 refine vc_nil ?_
 refine vc_then ?_
 first | refine vc_condP rfl (fun c16 => ?_) (fun c16 => ?_) | refine vc_condN rfl (fun c16 => ?_) (fun c16 => ?_) | refine vc_cond rfl (fun c16 => ?_) (fun c16 => ?_)
 ·skip
  simp at c16
  done
 ·skip
  refine vc_skip ?_
  refine vc_then ?_
  refine vc_seq ?_
  refine vc_region ?_
  refine vp ?_
  refine vc_y (y_len Tryz.underlying72 rfl hlen) rfl ?_
  refine vp ?_
  refine vc_nil ?_
  refine vc_then ?_
  refine vc_seq ?_
  refine vc_seq ?_
  refine vc_region ?_
  iterate 3 refine vp ?_
  refine vc_nil ?_
  refine vc_then ?_
  first | refine vc_condP rfl (fun c22 => ?_) (fun c22 => ?_) | refine vc_condN rfl (fun c22 => ?_) (fun c22 => ?_) | refine vc_cond rfl (fun c22 => ?_) (fun c22 => ?_)
  ·skip
   obtain rfl : i = xs.length := by omega
   refine vc_seq ?_
   refine vc_region ?_
   refine vp ?_
   refine vp ?_
   refine vc_append 0 rfl 1 rfl (Sl.vis) el_72_eInt Tryz.underlying72 rfl rfl (by simp; omega) (by simp; omega) rfl (fun h25 => ?_)
   refine vp ?_
   refine vc_nil ?_
   refine vc_then ?_
   refine vc_ret ?_
   refine vc_thenRet ?_
   exact vc_end1 Tryz.results194 rfl _ (ent_pick [0] rfl) ⟨h25, rfl, by simp⟩
  ·skip
   have hi2 : i < xs.length := by omega
   refine vc_skip ?_
   refine vc_then ?_
   refine vc_seq ?_
   refine vc_seq ?_
   refine vc_region ?_
   refine vp ?_
   refine vp ?_
   first | refine vc_y (y_arith _ rfl (wrap64 (by omega) (by omega))) rfl ?_ | refine vp ?_
   refine vp ?_
   refine vc_y (y_cap Tryz.underlying72 rfl) rfl ?_
   refine vp ?_
   refine vc_nil ?_
   refine vc_then ?_
   first | refine vc_condP rfl (fun c31 => ?_) (fun c31 => ?_) | refine vc_condN rfl (fun c31 => ?_) (fun c31 => ?_) | refine vc_cond rfl (fun c31 => ?_) (fun c31 => ?_)
   ·skip
    refine vc_seq ?_
    refine vc_region ?_
    refine vp ?_
    refine vp ?_
    refine vc_y (y_slice sl_72 rfl 0 i h.cap rfl ⟨_, _, rfl, rfl⟩ rfl (by simp) (by omega) (by omega) (by omega)) rfl ?_
    refine vp ?_
    refine vp ?_
    first | refine vc_y (y_arith _ rfl (wrap64 (by omega) (by omega))) rfl ?_ | refine vp ?_
    refine vp ?_
    first | refine vc_y (y_arith _ rfl (wrap64 (by omega) (by omega))) rfl ?_ | refine vp ?_
    refine vc_appendZ 0 rfl (E := eInt) (h := h.cut (Enc.sz eInt) 0 i h.cap) (xs := xs.take i) (Sl.vis.imp fun w r => r.cutL hi) (0 : Int) el_72_eInt Tryz.underlying3 ze_3 rfl rfl (xs.length + 1 - i) rfl (by omega) (by simp [SH.cut]; omega) (by simp; omega) (by simp; omega) rfl (fun h40 hh40 => ?_)
    refine vp ?_
    refine vc_nil ?_
    refine vc_then ?_
    refine vc_seq ?_
    refine vc_region ?_
    have hL : (xs.take i ++ List.replicate (xs.length + 1 - i) (0 : Int)).length = xs.length + 1 := by simp; omega
    have hL2 : (xs.take i).length = i := by simp; omega
    refine vc_open 0 rfl (by omega) (fun b pre post hh hc2 hpost => ?_)
    obtain ⟨hha, hhl, hhc⟩ := h40
    simp only [SH.mk.injEq] at hh
    obtain ⟨rfl, rfl, _⟩ := hh
    simp only [] at hh40 hc2 hpost
    have hbd := Nat.mul_le_mul_right (Enc.sz eInt) (show i + 1 ≤ xs.length + 1 by omega)
    have hbd2 := Nat.mul_le_mul_right (Enc.sz eInt) (show (i + 1) + (xs.length - i) ≤ xs.length + 1 by omega)
    rw [Nat.add_mul, Nat.one_mul] at hbd
    rw [Nat.add_mul] at hbd2
    refine vp ?_
    refine vp ?_
    refine vc_y (y_sliceR sl_72 rfl i (xs.take i ++ List.replicate (xs.length + 1 - i) (0 : Int)).length hhc (pre.length + i * Enc.sz eInt) (xs.length + 1 - i) _ ⟨_, _, rfl, rfl⟩ rfl rfl (by simp) (by omega) (by omega) (Nat.le_refl _) (by omega) rfl (by omega) rfl) rfl ?_
    refine vp ?_
    refine vc_copyRaw 0 rfl (E := eInt) [y] 2 rfl Sl.vis sl_72 rfl rfl 1 (minL (by omega)) rfl (by simp only [List.length_append, flat_length, hL] at *; omega) rfl ?_
    refine vc_cells 0 (pre ++ flat eInt (over (xs.take i ++ List.replicate (xs.length + 1 - i) (0 : Int)) i [y]) ++ post) rfl (by rw [splice_flat eInt (by omega), hL, show i + [y].length - (xs.length + 1) = 0 by simp; omega]; simp) ?_
    refine vc_nil ?_
    refine vc_then ?_
    refine vc_seq ?_
    refine vc_draw (by kernel_rfl) _ none [] rfl ?_
    refine tpp 0 ?_
    refine tpp 1 ?_
    refine tpp 2 ?_
    first | refine tp 3 rfl (by exact y_arith _ rfl (wrap64 (by omega) (by omega))) ?_ | refine tpp 3 ?_
    refine tp 4 rfl (by exact y_sliceR sl_72 rfl (i + 1) (xs.take i ++ List.replicate (xs.length + 1 - i) (0 : Int)).length hhc (pre.length + (i + 1) * Enc.sz eInt) (xs.length - i) _ ⟨_, _, rfl, rfl⟩ rfl rfl (by simp) (by omega) (by omega) (Nat.le_refl _) (by omega) rfl (by omega) rfl) ?_
    refine tpp 5 ?_
    refine tpp 6 ?_
    refine tp 7 rfl (by exact y_slice sl_72 rfl i h.len h.cap ⟨_, _, rfl, rfl⟩ rfl rfl (by simp) (by omega) (by omega) (by omega)) ?_
    refine va_ready [8] (by kernel_rfl) rfl ?_
    refine vo_cons rfl (fun hC0 => ?_) ?_
    ·skip
     refine vc_copyRaw 0 rfl (E := eInt) (xs.drop i) 1 rfl (Sl.vis.imp fun w r => (r.cutD hi).re) sl_72 rfl rfl (xs.length - i) (minR (show xs.length - i ≤ h.len - i by omega)) (by simp) (by simp only [List.length_append, flat_length, over_len (show i ≤ (xs.take i ++ List.replicate (xs.length + 1 - i) (0 : Int)).length by omega), hL, List.length_singleton]; have := Nat.mul_le_mul_right (Enc.sz eInt) (Nat.le_max_left (xs.length + 1) (i + 1)); omega) rfl ?_
     refine vc_cells 0 (pre ++ flat eInt (xs.take i ++ y :: xs.drop i) ++ post) rfl (by rw [splice_flat eInt (by rw [over_len (by omega), hL]; omega), over_new y _ hi2, over_len (by omega), hL, List.length_drop, show i + 1 + (xs.length - i) - max (xs.length + 1) (i + [y].length) = 0 by simp; omega]; simp) ?_
     refine vc_turn 0 rfl (Sl eInt ⟨some ⟨b, pre.length, none⟩, (xs.take i ++ List.replicate (xs.length + 1 - i) (0 : Int)).length, hhc⟩ (xs.take i ++ y :: xs.drop i)) (VS.of_ent (sl_close rfl (by simp; omega) (by rw [show (xs.take i ++ y :: xs.drop i).length = xs.length + 1 by simp; omega]; rw [hL] at hpost; exact hpost) (by rw [hL]; simp; omega))) ?_
     refine vc_nil ?_
     refine vc_then ?_
     refine va_kept hC0 [] rfl ?_
     refine va_done (by kernel_rfl) ?_
     refine vc_then ?_
     refine vc_seq ?_
     refine vc_region ?_
     refine vp ?_
     refine vp ?_
     refine vc_nil ?_
     refine vc_then ?_
     refine vc_ret ?_
     refine vc_thenRet ?_
     exact vc_end1 Tryz.results194 rfl _ (ent_pick [0] rfl) ⟨_, rfl, rfl⟩
    exact vo_nil
   ·skip
    refine vc_skip ?_
    refine vc_then ?_
    refine vc_seq ?_
    refine vc_region ?_
    have hcap1 : xs.length + 1 ≤ h.cap := by omega
    refine vc_open 0 rfl (by omega) (fun b pre post hh hc2 hpost => ?_)
    refine vc_open 1 rfl (by exact hvcap) (fun b2 pre2 post2 hh2 hc22 hpost2 => ?_)
    obtain ⟨hha, hhl, hhc⟩ := h
    simp only [SH.mk.injEq] at hh
    obtain ⟨rfl, rfl, _⟩ := hh
    simp only [] at hlen hcap hcap1 hc2 hpost
    simp only [SH.mk.injEq] at hh2
    obtain ⟨rfl, _, _⟩ := hh2
    have hbd := Nat.mul_le_mul_right (Enc.sz eInt) (show 1 ≤ hhc - xs.length by omega)
    have hbd2 := Nat.mul_le_mul_right (Enc.sz eInt) (show (i + 1) + (xs.length - i) ≤ xs.length + 1 by omega)
    have hbd3 := Nat.mul_le_mul_right (Enc.sz eInt) (show i + 1 ≤ xs.length by omega)
    rw [Nat.add_mul] at hbd2
    rw [Nat.add_mul] at hbd3
    rw [Nat.add_mul xs.length] at hbd2
    have hne : (pre ++ flat eInt xs ++ post).isEmpty = false := by
     rw [List.isEmpty_eq_false_iff_exists_mem]
     have h3 := Nat.mul_pos (show 0 < xs.length by omega) (eInt).pos
     exact List.exists_mem_of_length_pos (by simp only [List.length_append, flat_length]; omega)
    iterate 3 refine vp ?_
    first | refine vc_y (y_arith _ rfl (wrap64 (by omega) (by omega))) rfl ?_ | refine vp ?_
    refine vc_y (y_sliceR sl_72 rfl 0 (xs.length + 1) hhc pre.length (xs.length + 1) hhc rfl ⟨_, _, rfl, rfl⟩ rfl (by simp) (by omega) (by omega) (by omega) (by omega) (by simp) (by omega) rfl) rfl ?_
    refine vp ?_
    refine vc_nil ?_
    refine vc_then ?_
    refine vc_seq ?_
    refine vc_seq ?_
    refine vc_region ?_
    iterate 4 refine vp ?_
    first | refine vc_y (y_arith _ rfl (wrap64 (by omega) (by omega))) rfl ?_ | refine vp ?_
    refine vc_y (y_sliceR sl_72 rfl (i + 1) (xs.length + 1) hhc (pre.length + (i + 1) * Enc.sz eInt) (xs.length - i) _ ⟨_, _, rfl, rfl⟩ rfl rfl (by simp) (by omega) (by omega) (by omega) (by omega) rfl (by omega) rfl) rfl ?_
    refine vc_y (by exact y_overlaps (tR := 4) (f := 225) Tryz.func225 rfl (by kernel_rfl) (by kernel_rfl) (by kernel_rfl) sl_72 1 0 rfl rfl rfl hne rfl rfl rfl) rfl ?_
    refine vp ?_
    refine vc_nil ?_
    refine vc_then ?_
    refine vc_condT rfl ?_
    refine vc_seq ?_
    refine vc_draw (by kernel_rfl) _ none [] rfl ?_
    refine tpp 0 ?_
    refine tpp 1 ?_
    refine tpp 2 ?_
    first | refine tp 3 rfl (by exact y_arith _ rfl (wrap64 (by omega) (by omega))) ?_ | refine tpp 3 ?_
    refine tp 4 rfl (by exact y_sliceR sl_72 rfl (i + 1) (xs.length + 1) hhc (pre.length + (i + 1) * Enc.sz eInt) (xs.length - i) _ ⟨_, _, rfl, rfl⟩ rfl rfl (by simp) (by omega) (by omega) (by omega) (by omega) rfl (by omega) rfl) ?_
    refine tpp 5 ?_
    refine tpp 6 ?_
    refine tp 7 rfl (by exact y_sliceR sl_72 rfl i (xs.length + 1) hhc (pre.length + i * Enc.sz eInt) (xs.length + 1 - i) (hhc - i) ⟨_, _, rfl, rfl⟩ rfl rfl (by simp) (by omega) (by omega) (by omega) (by omega) rfl (by omega) rfl) ?_
    refine va_ready [8] (by kernel_rfl) rfl ?_
    refine vo_cons rfl (fun hC0 => ?_) ?_
    ·skip
     refine vc_copyRaw 0 rfl (E := eInt) (xs.drop i) 0 rfl (Pts.rdR (xs.drop i) i takeAll rfl rfl (by simp; omega)) sl_72 rfl rfl (xs.length - i) (minR (by omega)) (by simp) (by simp only [List.length_append, flat_length]; omega) rfl ?_
     refine vc_cells 0 (pre ++ flat eInt (over xs (i + 1) (xs.drop i)) ++ post.drop (Enc.sz eInt)) rfl (by rw [splice_flat eInt (by omega), List.length_drop, show i + 1 + (xs.length - i) - xs.length = 1 by omega, Nat.one_mul]) ?_
     refine vc_nil ?_
     refine vc_then ?_
     refine va_kept hC0 [] rfl ?_
     refine va_done (by kernel_rfl) ?_
     refine vc_then ?_
     refine vc_seq ?_
     refine vc_region ?_
     refine vp ?_
     refine vp ?_
     refine vc_y (y_sliceR sl_72 rfl i (xs.length + 1) hhc (pre.length + i * Enc.sz eInt) (xs.length + 1 - i) (hhc - i) ⟨_, _, rfl, rfl⟩ rfl rfl (by simp) (by omega) (by omega) (by omega) (by omega) rfl (by omega) rfl) rfl ?_
     refine vp ?_
     refine vc_copyRaw 0 rfl (E := eInt) [y] 1 rfl (Pts.rd hc22) sl_72 rfl rfl 1 (minL (by omega)) rfl (by simp only [List.length_append, flat_length, over_len (show i + 1 ≤ xs.length by omega), List.length_drop]; have := Nat.mul_le_mul_right (Enc.sz eInt) (Nat.le_max_left xs.length (i + 1 + (xs.length - i))); omega) rfl ?_
     refine vc_cells 0 (pre ++ flat eInt (xs.take i ++ y :: xs.drop i) ++ post.drop (Enc.sz eInt)) rfl (by rw [splice_flat eInt (by rw [over_len (by omega)]; omega), over_ins y hi2, over_len (by omega), List.length_drop, show i + [y].length - max xs.length (i + 1 + (xs.length - i)) = 0 by simp; omega]; simp) ?_
     refine vc_turn 0 rfl (Sl eInt ⟨some ⟨b, pre.length, none⟩, xs.length + 1, hhc⟩ (xs.take i ++ y :: xs.drop i)) (VS.of_ent (sl_close rfl (by simp; omega) (by rw [show (xs.take i ++ y :: xs.drop i).length = xs.length + 1 by simp; omega, List.length_drop]; have : (hhc - (xs.length + 1)) * Enc.sz eInt + 1 * Enc.sz eInt ≤ (hhc - xs.length) * Enc.sz eInt := (by rw [← Nat.add_mul]; exact Nat.mul_le_mul_right _ (by omega)); omega) (by simp; omega))) ?_
     refine vc_nil ?_
     refine vc_then ?_
     refine vc_seq ?_
     refine vc_region ?_
     refine vp ?_
     refine vp ?_
     refine vc_nil ?_
     refine vc_then ?_
     refine vc_ret ?_
     refine vc_thenRet ?_
     exact vc_end1 Tryz.results194 rfl _ (ent_pick [0] rfl) ⟨_, rfl, rfl⟩
    exact vo_nil
theorem insN_spec {h hv : SH} {xs : List Nat} {i : Nat} {y : Nat} (hi : i ≤ xs.length) (hb : xs.length ≤ 1000000) :
  Does Tryz.prog 194 [h.v, .int .i64 (i : Int), hv.v] [Sl eNat h xs, Sl eNat hv [y]] (fun v l => ∃ h', v = h'.v ∧ l = [Sl eNat h' (xs.take i ++ y :: xs.drop i)]) := by
 refine spec_of Tryz.func194 rfl Tryz.ntmps194 Tryz.results194 _ (by simp) fun ι F => ?_
 refine vc_see 0 rfl (Sl.vis.imp fun w r => (⟨r.len, r.cap⟩ : h.len = xs.length ∧ xs.length ≤ h.cap)) (fun hlc => ?_)
 obtain ⟨hlen, hcap⟩ := hlc
 refine vc_see 1 rfl (Sl.vis.imp fun w r => (⟨r.len, r.cap⟩ : hv.len = 1 ∧ 1 ≤ hv.cap)) (fun hlc => ?_)
 obtain ⟨hva, hvl, hvc⟩ := hv
 obtain ⟨hvl0, hvcap⟩ := hlc
 simp only [] at hvl0 hvcap
 subst hvl0
 refine vc_seq ?_
 refine vc_region ?_
 refine vp ?_
 refine vc_nil ?_
 refine vc_then ?_
 refine vc_seq ?_
 refine vc_region ?_
 refine vp ?_
 refine vp ?_
 refine vc_y (y_slice sl_72 rfl i h.len h.cap ⟨_, _, rfl, rfl⟩ rfl rfl (by simp) (by omega) (by omega) (by omega)) rfl ?_
 refine vc_nil ?_
 refine vc_then ?_
 refine vc_seq ?_
 refine vc_region ?_
 refine vp ?_
 refine vc_y (y_len Tryz.underlying72 rfl (show 1 = 1 from rfl)) rfl ?_
 refine vp ?_
 refine vc_nil ?_
 refine vc_then ?_
 refine vc_seq ?_
 refine vc_seq ?_
 refine vc_region ?_
 refine vp ?_
 refine vp ?_
 refine vc_nil ?_
 refine vc_then ?_
 first | refine vc_condP rfl (fun c16 => ?_) (fun c16 => ?_) | refine vc_condN rfl (fun c16 => ?_) (fun c16 => ?_) | refine vc_cond rfl (fun c16 => ?_) (fun c16 => ?_)
 ·skip
  simp at c16
  done
 ·skip
  refine vc_skip ?_
  refine vc_then ?_
  refine vc_seq ?_
  refine vc_region ?_
  refine vp ?_
  refine vc_y (y_len Tryz.underlying72 rfl hlen) rfl ?_
  refine vp ?_
  refine vc_nil ?_
  refine vc_then ?_
  refine vc_seq ?_
  refine vc_seq ?_
  refine vc_region ?_
  iterate 3 refine vp ?_
  refine vc_nil ?_
  refine vc_then ?_
  first | refine vc_condP rfl (fun c22 => ?_) (fun c22 => ?_) | refine vc_condN rfl (fun c22 => ?_) (fun c22 => ?_) | refine vc_cond rfl (fun c22 => ?_) (fun c22 => ?_)
  ·skip
   obtain rfl : i = xs.length := by omega
   refine vc_seq ?_
   refine vc_region ?_
   refine vp ?_
   refine vp ?_
   refine vc_append 0 rfl 1 rfl (Sl.vis) el_72_eNat Tryz.underlying72 rfl rfl (by simp; omega) (by simp; omega) rfl (fun h25 => ?_)
   refine vp ?_
   refine vc_nil ?_
   refine vc_then ?_
   refine vc_ret ?_
   refine vc_thenRet ?_
   exact vc_end1 Tryz.results194 rfl _ (ent_pick [0] rfl) ⟨h25, rfl, by simp⟩
  ·skip
   have hi2 : i < xs.length := by omega
   refine vc_skip ?_
   refine vc_then ?_
   refine vc_seq ?_
   refine vc_seq ?_
   refine vc_region ?_
   refine vp ?_
   refine vp ?_
   first | refine vc_y (y_arith _ rfl (wrap64 (by omega) (by omega))) rfl ?_ | refine vp ?_
   refine vp ?_
   refine vc_y (y_cap Tryz.underlying72 rfl) rfl ?_
   refine vp ?_
   refine vc_nil ?_
   refine vc_then ?_
   first | refine vc_condP rfl (fun c31 => ?_) (fun c31 => ?_) | refine vc_condN rfl (fun c31 => ?_) (fun c31 => ?_) | refine vc_cond rfl (fun c31 => ?_) (fun c31 => ?_)
   ·skip
    refine vc_seq ?_
    refine vc_region ?_
    refine vp ?_
    refine vp ?_
    refine vc_y (y_slice sl_72 rfl 0 i h.cap rfl ⟨_, _, rfl, rfl⟩ rfl (by simp) (by omega) (by omega) (by omega)) rfl ?_
    refine vp ?_
    refine vp ?_
    first | refine vc_y (y_arith _ rfl (wrap64 (by omega) (by omega))) rfl ?_ | refine vp ?_
    refine vp ?_
    first | refine vc_y (y_arith _ rfl (wrap64 (by omega) (by omega))) rfl ?_ | refine vp ?_
    refine vc_appendZ 0 rfl (E := eNat) (h := h.cut (Enc.sz eNat) 0 i h.cap) (xs := xs.take i) (Sl.vis.imp fun w r => r.cutL hi) (0 : Nat) el_72_eNat Tryz.underlying3 ze_3 rfl rfl (xs.length + 1 - i) rfl (by omega) (by simp [SH.cut]; omega) (by simp; omega) (by simp; omega) rfl (fun h40 hh40 => ?_)
    refine vp ?_
    refine vc_nil ?_
    refine vc_then ?_
    refine vc_seq ?_
    refine vc_region ?_
    have hL : (xs.take i ++ List.replicate (xs.length + 1 - i) (0 : Nat)).length = xs.length + 1 := by simp; omega
    have hL2 : (xs.take i).length = i := by simp; omega
    refine vc_open 0 rfl (by omega) (fun b pre post hh hc2 hpost => ?_)
    obtain ⟨hha, hhl, hhc⟩ := h40
    simp only [SH.mk.injEq] at hh
    obtain ⟨rfl, rfl, _⟩ := hh
    simp only [] at hh40 hc2 hpost
    have hbd := Nat.mul_le_mul_right (Enc.sz eNat) (show i + 1 ≤ xs.length + 1 by omega)
    have hbd2 := Nat.mul_le_mul_right (Enc.sz eNat) (show (i + 1) + (xs.length - i) ≤ xs.length + 1 by omega)
    rw [Nat.add_mul, Nat.one_mul] at hbd
    rw [Nat.add_mul] at hbd2
    refine vp ?_
    refine vp ?_
    refine vc_y (y_sliceR sl_72 rfl i (xs.take i ++ List.replicate (xs.length + 1 - i) (0 : Nat)).length hhc (pre.length + i * Enc.sz eNat) (xs.length + 1 - i) _ ⟨_, _, rfl, rfl⟩ rfl rfl (by simp) (by omega) (by omega) (Nat.le_refl _) (by omega) rfl (by omega) rfl) rfl ?_
    refine vp ?_
    refine vc_copyRaw 0 rfl (E := eNat) [y] 2 rfl Sl.vis sl_72 rfl rfl 1 (minL (by omega)) rfl (by simp only [List.length_append, flat_length, hL] at *; omega) rfl ?_
    refine vc_cells 0 (pre ++ flat eNat (over (xs.take i ++ List.replicate (xs.length + 1 - i) (0 : Nat)) i [y]) ++ post) rfl (by rw [splice_flat eNat (by omega), hL, show i + [y].length - (xs.length + 1) = 0 by simp; omega]; simp) ?_
    refine vc_nil ?_
    refine vc_then ?_
    refine vc_seq ?_
    refine vc_draw (by kernel_rfl) _ none [] rfl ?_
    refine tpp 0 ?_
    refine tpp 1 ?_
    refine tpp 2 ?_
    first | refine tp 3 rfl (by exact y_arith _ rfl (wrap64 (by omega) (by omega))) ?_ | refine tpp 3 ?_
    refine tp 4 rfl (by exact y_sliceR sl_72 rfl (i + 1) (xs.take i ++ List.replicate (xs.length + 1 - i) (0 : Nat)).length hhc (pre.length + (i + 1) * Enc.sz eNat) (xs.length - i) _ ⟨_, _, rfl, rfl⟩ rfl rfl (by simp) (by omega) (by omega) (Nat.le_refl _) (by omega) rfl (by omega) rfl) ?_
    refine tpp 5 ?_
    refine tpp 6 ?_
    refine tp 7 rfl (by exact y_slice sl_72 rfl i h.len h.cap ⟨_, _, rfl, rfl⟩ rfl rfl (by simp) (by omega) (by omega) (by omega)) ?_
    refine va_ready [8] (by kernel_rfl) rfl ?_
    refine vo_cons rfl (fun hC0 => ?_) ?_
    ·skip
     refine vc_copyRaw 0 rfl (E := eNat) (xs.drop i) 1 rfl (Sl.vis.imp fun w r => (r.cutD hi).re) sl_72 rfl rfl (xs.length - i) (minR (show xs.length - i ≤ h.len - i by omega)) (by simp) (by simp only [List.length_append, flat_length, over_len (show i ≤ (xs.take i ++ List.replicate (xs.length + 1 - i) (0 : Nat)).length by omega), hL, List.length_singleton]; have := Nat.mul_le_mul_right (Enc.sz eNat) (Nat.le_max_left (xs.length + 1) (i + 1)); omega) rfl ?_
     refine vc_cells 0 (pre ++ flat eNat (xs.take i ++ y :: xs.drop i) ++ post) rfl (by rw [splice_flat eNat (by rw [over_len (by omega), hL]; omega), over_new y _ hi2, over_len (by omega), hL, List.length_drop, show i + 1 + (xs.length - i) - max (xs.length + 1) (i + [y].length) = 0 by simp; omega]; simp) ?_
     refine vc_turn 0 rfl (Sl eNat ⟨some ⟨b, pre.length, none⟩, (xs.take i ++ List.replicate (xs.length + 1 - i) (0 : Nat)).length, hhc⟩ (xs.take i ++ y :: xs.drop i)) (VS.of_ent (sl_close rfl (by simp; omega) (by rw [show (xs.take i ++ y :: xs.drop i).length = xs.length + 1 by simp; omega]; rw [hL] at hpost; exact hpost) (by rw [hL]; simp; omega))) ?_
     refine vc_nil ?_
     refine vc_then ?_
     refine va_kept hC0 [] rfl ?_
     refine va_done (by kernel_rfl) ?_
     refine vc_then ?_
     refine vc_seq ?_
     refine vc_region ?_
     refine vp ?_
     refine vp ?_
     refine vc_nil ?_
     refine vc_then ?_
     refine vc_ret ?_
     refine vc_thenRet ?_
     exact vc_end1 Tryz.results194 rfl _ (ent_pick [0] rfl) ⟨_, rfl, rfl⟩
    exact vo_nil
   ·skip
    refine vc_skip ?_
    refine vc_then ?_
    refine vc_seq ?_
    refine vc_region ?_
    have hcap1 : xs.length + 1 ≤ h.cap := by omega
    refine vc_open 0 rfl (by omega) (fun b pre post hh hc2 hpost => ?_)
    refine vc_open 1 rfl (by exact hvcap) (fun b2 pre2 post2 hh2 hc22 hpost2 => ?_)
    obtain ⟨hha, hhl, hhc⟩ := h
    simp only [SH.mk.injEq] at hh
    obtain ⟨rfl, rfl, _⟩ := hh
    simp only [] at hlen hcap hcap1 hc2 hpost
    simp only [SH.mk.injEq] at hh2
    obtain ⟨rfl, _, _⟩ := hh2
    have hbd := Nat.mul_le_mul_right (Enc.sz eNat) (show 1 ≤ hhc - xs.length by omega)
    have hbd2 := Nat.mul_le_mul_right (Enc.sz eNat) (show (i + 1) + (xs.length - i) ≤ xs.length + 1 by omega)
    have hbd3 := Nat.mul_le_mul_right (Enc.sz eNat) (show i + 1 ≤ xs.length by omega)
    rw [Nat.add_mul] at hbd2
    rw [Nat.add_mul] at hbd3
    rw [Nat.add_mul xs.length] at hbd2
    have hne : (pre ++ flat eNat xs ++ post).isEmpty = false := by
     rw [List.isEmpty_eq_false_iff_exists_mem]
     have h3 := Nat.mul_pos (show 0 < xs.length by omega) (eNat).pos
     exact List.exists_mem_of_length_pos (by simp only [List.length_append, flat_length]; omega)
    iterate 3 refine vp ?_
    first | refine vc_y (y_arith _ rfl (wrap64 (by omega) (by omega))) rfl ?_ | refine vp ?_
    refine vc_y (y_sliceR sl_72 rfl 0 (xs.length + 1) hhc pre.length (xs.length + 1) hhc rfl ⟨_, _, rfl, rfl⟩ rfl (by simp) (by omega) (by omega) (by omega) (by omega) (by simp) (by omega) rfl) rfl ?_
    refine vp ?_
    refine vc_nil ?_
    refine vc_then ?_
    refine vc_seq ?_
    refine vc_seq ?_
    refine vc_region ?_
    iterate 4 refine vp ?_
    first | refine vc_y (y_arith _ rfl (wrap64 (by omega) (by omega))) rfl ?_ | refine vp ?_
    refine vc_y (y_sliceR sl_72 rfl (i + 1) (xs.length + 1) hhc (pre.length + (i + 1) * Enc.sz eNat) (xs.length - i) _ ⟨_, _, rfl, rfl⟩ rfl rfl (by simp) (by omega) (by omega) (by omega) (by omega) rfl (by omega) rfl) rfl ?_
    refine vc_y (by exact y_overlaps (tR := 4) (f := 225) Tryz.func225 rfl (by kernel_rfl) (by kernel_rfl) (by kernel_rfl) sl_72 1 0 rfl rfl rfl hne rfl rfl rfl) rfl ?_
    refine vp ?_
    refine vc_nil ?_
    refine vc_then ?_
    refine vc_condT rfl ?_
    refine vc_seq ?_
    refine vc_draw (by kernel_rfl) _ none [] rfl ?_
    refine tpp 0 ?_
    refine tpp 1 ?_
    refine tpp 2 ?_
    first | refine tp 3 rfl (by exact y_arith _ rfl (wrap64 (by omega) (by omega))) ?_ | refine tpp 3 ?_
    refine tp 4 rfl (by exact y_sliceR sl_72 rfl (i + 1) (xs.length + 1) hhc (pre.length + (i + 1) * Enc.sz eNat) (xs.length - i) _ ⟨_, _, rfl, rfl⟩ rfl rfl (by simp) (by omega) (by omega) (by omega) (by omega) rfl (by omega) rfl) ?_
    refine tpp 5 ?_
    refine tpp 6 ?_
    refine tp 7 rfl (by exact y_sliceR sl_72 rfl i (xs.length + 1) hhc (pre.length + i * Enc.sz eNat) (xs.length + 1 - i) (hhc - i) ⟨_, _, rfl, rfl⟩ rfl rfl (by simp) (by omega) (by omega) (by omega) (by omega) rfl (by omega) rfl) ?_
    refine va_ready [8] (by kernel_rfl) rfl ?_
    refine vo_cons rfl (fun hC0 => ?_) ?_
    ·skip
     refine vc_copyRaw 0 rfl (E := eNat) (xs.drop i) 0 rfl (Pts.rdR (xs.drop i) i takeAll rfl rfl (by simp; omega)) sl_72 rfl rfl (xs.length - i) (minR (by omega)) (by simp) (by simp only [List.length_append, flat_length]; omega) rfl ?_
     refine vc_cells 0 (pre ++ flat eNat (over xs (i + 1) (xs.drop i)) ++ post.drop (Enc.sz eNat)) rfl (by rw [splice_flat eNat (by omega), List.length_drop, show i + 1 + (xs.length - i) - xs.length = 1 by omega, Nat.one_mul]) ?_
     refine vc_nil ?_
     refine vc_then ?_
     refine va_kept hC0 [] rfl ?_
     refine va_done (by kernel_rfl) ?_
     refine vc_then ?_
     refine vc_seq ?_
     refine vc_region ?_
     refine vp ?_
     refine vp ?_
     refine vc_y (y_sliceR sl_72 rfl i (xs.length + 1) hhc (pre.length + i * Enc.sz eNat) (xs.length + 1 - i) (hhc - i) ⟨_, _, rfl, rfl⟩ rfl rfl (by simp) (by omega) (by omega) (by omega) (by omega) rfl (by omega) rfl) rfl ?_
     refine vp ?_
     refine vc_copyRaw 0 rfl (E := eNat) [y] 1 rfl (Pts.rd hc22) sl_72 rfl rfl 1 (minL (by omega)) rfl (by simp only [List.length_append, flat_length, over_len (show i + 1 ≤ xs.length by omega), List.length_drop]; have := Nat.mul_le_mul_right (Enc.sz eNat) (Nat.le_max_left xs.length (i + 1 + (xs.length - i))); omega) rfl ?_
     refine vc_cells 0 (pre ++ flat eNat (xs.take i ++ y :: xs.drop i) ++ post.drop (Enc.sz eNat)) rfl (by rw [splice_flat eNat (by rw [over_len (by omega)]; omega), over_ins y hi2, over_len (by omega), List.length_drop, show i + [y].length - max xs.length (i + 1 + (xs.length - i)) = 0 by simp; omega]; simp) ?_
     refine vc_turn 0 rfl (Sl eNat ⟨some ⟨b, pre.length, none⟩, xs.length + 1, hhc⟩ (xs.take i ++ y :: xs.drop i)) (VS.of_ent (sl_close rfl (by simp; omega) (by rw [show (xs.take i ++ y :: xs.drop i).length = xs.length + 1 by simp; omega, List.length_drop]; have : (hhc - (xs.length + 1)) * Enc.sz eNat + 1 * Enc.sz eNat ≤ (hhc - xs.length) * Enc.sz eNat := (by rw [← Nat.add_mul]; exact Nat.mul_le_mul_right _ (by omega)); omega) (by simp; omega))) ?_
     refine vc_nil ?_
     refine vc_then ?_
     refine vc_seq ?_
     refine vc_region ?_
     refine vp ?_
     refine vp ?_
     refine vc_nil ?_
     refine vc_then ?_
     refine vc_ret ?_
     refine vc_thenRet ?_
     exact vc_end1 Tryz.results194 rfl _ (ent_pick [0] rfl) ⟨_, rfl, rfl⟩
    exact vo_nil
end Go.Proofs.YtcpbibdbahfgaaaGreat
