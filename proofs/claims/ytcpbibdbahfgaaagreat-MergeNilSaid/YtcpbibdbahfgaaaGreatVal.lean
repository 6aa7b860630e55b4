/-
 Values, versions: what may be.
-/
import Derived.Test.YtcpbibdbahfgaaaGreatEng9
import Derived.Test.YtcpbibdbahfgaaaGreatBase
import Derived.Test.YtcpbibdbahfgaaaGreatProg
import Derived.KernelRfl
set_option linter.unusedVariables false
set_option linter.unusedSimpArgs false
set_option autoImplicit false
set_option maxHeartbeats 4000000
namespace Go.Proofs.YtcpbibdbahfgaaaGreat
open Go.Eng
namespace FVal
theorem one_4 : TyOne Tryz.prog 4 := ⟨⟨_, Tryz.underlying4, rfl⟩, by kernel_rfl⟩
theorem one_9 : TyOne Tryz.prog 9 := ⟨⟨_, Tryz.underlying9, rfl⟩, by kernel_rfl⟩
theorem one_34 : TyOne Tryz.prog 34 := ⟨⟨_, Tryz.underlying34, rfl⟩, by kernel_rfl⟩
theorem ca_171 : Callable Tryz.prog 171 := ⟨_, _, Tryz.func171, rfl, rfl⟩
theorem ca_134 : Callable Tryz.prog 134 := ⟨_, _, Tryz.func134, rfl, rfl⟩
theorem fl_45_0 : Fld Tryz.prog 45 0 0 := ⟨_, _, 0, Tryz.underlying45, rfl, rfl, by kernel_rfl⟩
theorem fl_45_1 : Fld Tryz.prog 45 1 1 := ⟨_, _, 0, Tryz.underlying45, rfl, rfl, by kernel_rfl⟩
theorem fl_45_2 : Fld Tryz.prog 45 2 2 := ⟨_, _, 0, Tryz.underlying45, rfl, rfl, by kernel_rfl⟩
theorem ca_135 : Callable Tryz.prog 135 := ⟨_, _, Tryz.func135, rfl, rfl⟩
theorem fl_135_0 : Fld Tryz.prog 135 0 0 := ⟨_, _, 0, Tryz.underlying135, rfl, rfl, by kernel_rfl⟩
theorem one_3 : TyOne Tryz.prog 3 := ⟨⟨_, Tryz.underlying3, rfl⟩, by kernel_rfl⟩
theorem fl_135_2 : Fld Tryz.prog 135 2 2 := ⟨_, _, 2, Tryz.underlying135, rfl, rfl, by kernel_rfl⟩
theorem ag_45 : TyAgg Tryz.prog 45 3 := ⟨⟨_, Tryz.underlying45, rfl⟩, by kernel_rfl⟩
theorem ca_87 : Callable Tryz.prog 87 := ⟨_, _, Tryz.func87, rfl, rfl⟩
theorem fl_135_1 : Fld Tryz.prog 135 1 1 := ⟨_, _, 0, Tryz.underlying135, rfl, rfl, by kernel_rfl⟩
theorem ze_45 : (Tryz.prog.info? 45).map (·.zero) = some (some (.agg #[.bool false, .string ⟨#[]⟩, .int .u64 0])) := by kernel_rfl
theorem bu_45_n   (w : World) : (Instr.build 45 #[]).run Tryz.prog w = .ok (.agg #[.bool false, .string ⟨#[]⟩, .int .u64 0]) w := by
 have hz := @ze_45
 exact Go.Eng.run_build (pl := [(0, 1), (1, 1), (2, 1)]) hz Tryz.underlying45 (by kernel_rfl) rfl (by simp [Instr.fill, cells_agg]) w
theorem eg_45 : Tryz.prog.eqGuardType Tryz.prog.depth 45 = false := by kernel_rfl
end FVal
open FVal
structure Val where
 num : Bool
 text : ByteArray
 bits : Int
structure Ver where
 seq : Int
 gone : Bool
 val : Val
structure Wr where
 key : ByteArray
 gone : Bool
 val : Val
structure En where
 key : ByteArray
 seq : Int
 val : Val
structure RowT where
 room : Int
 key : ByteArray
 val : Val
def Val.cs (x : Val) : List Value := [.bool x.num, .string x.text, .int .u64 x.bits]
def Ver.cs (x : Ver) : List Value := [.int .i64 x.seq, .bool x.gone, .bool x.val.num, .string x.val.text, .int .u64 x.val.bits]
def Wr.cs (x : Wr) : List Value := [.string x.key, .bool x.gone, .bool x.val.num, .string x.val.text, .int .u64 x.val.bits]
def En.cs (x : En) : List Value := [.string x.key, .int .i64 x.seq, .bool x.val.num, .string x.val.text, .int .u64 x.val.bits]
def RowT.cs (x : RowT) : List Value := [.int .i64 x.room, .string x.key, .bool x.val.num, .string x.val.text, .int .u64 x.val.bits]
def eVal : Enc Val := ⟨45, 3, Val.cs, fun _ => rfl, fun _ c h => by simp [Val.cs] at h; rcases h with rfl | rfl | rfl <;> rfl, by decide⟩
def eVer : Enc Ver := ⟨135, 5, Ver.cs, fun _ => rfl, fun _ c h => by simp [Ver.cs] at h; rcases h with rfl | rfl | rfl | rfl | rfl <;> rfl, by decide⟩
def eWr : Enc Wr := ⟨97, 5, Wr.cs, fun _ => rfl, fun _ c h => by simp [Wr.cs] at h; rcases h with rfl | rfl | rfl | rfl | rfl <;> rfl, by decide⟩
def eEn : Enc En := ⟨56, 5, En.cs, fun _ => rfl, fun _ c h => by simp [En.cs] at h; rcases h with rfl | rfl | rfl | rfl | rfl <;> rfl, by decide⟩
def eRow : Enc RowT := ⟨158, 5, RowT.cs, fun _ => rfl, fun _ c h => by simp [RowT.cs] at h; rcases h with rfl | rfl | rfl | rfl | rfl <;> rfl, by decide⟩
def val0 : Val := ⟨false, ⟨#[]⟩, 0⟩
def ver0 : Ver := ⟨0, false, val0⟩
def valEq (a b : Val) : Bool := a.num == b.num && (a.text.toList == b.text.toList && (a.bits == b.bits && true))
def valRight (x : Val) : Bool := if x.num then sEq x.text ⟨#[]⟩ && decide (((canonB x.bits.toNat : Nat) : Int) = x.bits) else decide (x.bits = 0) && decide ((x.text.size : Int) ≤ 64)
def verRight (x : Ver) : Bool := decide (1 ≤ x.seq) && (decide (x.seq ≤ 1073741824) && (valRight x.val && (!x.gone || valEq x.val val0)))
/-- A chain from a number on. -/
def chainFrom : Int → List Ver → Bool
 | _, [] => true
 | last, v :: r => verRight v && (decide (last < v.seq) && chainFrom v.seq r)
def chainRight (l : List Ver) : Bool := chainFrom 0 l
def lastSeq (l : List Ver) : Nat → Int
 | 0 => 0
 | i + 1 => match l[i]? with
  | some v => v.seq
  | none => 0
theorem lastSeq_succ {l : List Ver} {i : Nat} (h : i < l.length) : lastSeq l (i + 1) = l[i].seq := by simp [lastSeq, List.getElem?_eq_getElem h]
def verLast (l : List Ver) : Option Ver := if chainRight l then l[l.length - 1]? else none
def optVer (o : Option Ver) : Value := .tuple #[.agg (o.getD ver0).cs.toArray, .bool o.isSome]
theorem eqv_45 (a : Bool) (b : ByteArray) (c : Int) (a' : Bool) (b' : ByteArray) (c' : Int) : ∀ w, (Op.equalIn 10000 45 (.agg #[.bool a, .string b, .int .u64 c]) (.agg #[.bool a', .string b', .int .u64 c'])).run Tryz.prog w = .ok (a == a' && (b.toList == b'.toList && (c == c' && true))) w := fun w => by
 rw [run_equalIn_struct w _ _ _ _ (by kernel_rfl) (by kernel_rfl)]
 unfold Program.fieldsOf
 rw [Tryz.underlying45]
 show (Op.eqFields _ _ _ [_, _, _]).run _ _ = _
 refine eqF_cons (by decide) (run_part1 one_4 rfl w) (run_part1 one_4 rfl w) (run_equalIn_bool' w _ _ _ _ Tryz.underlying4) ?_
 refine eqF_cons (by decide) (run_part1 one_9 rfl w) (run_part1 one_9 rfl w) (run_equalIn_string w _ _ _ _ Tryz.underlying9) ?_
 refine eqF_cons (by decide) (run_part1 one_34 rfl w) (run_part1 one_34 rfl w) (run_equalIn_int w _ _ .u64 .u64 _ _ Tryz.underlying34) ?_
 exact eqF_nil
theorem isNaN_spec (b : Nat) : Does Tryz.prog 171 [.float .f64 b] [] (fun v l => v = .bool (nanB b) ∧ l = []) := by
 refine spec_of Tryz.func171 rfl Tryz.ntmps171 Tryz.results171 _ (by simp) fun ι F => ?_
 refine vc_seq ?_
 refine vc_region ?_
 refine vp ?_
 refine vc_nil ?_
 refine vc_then ?_
 refine vc_seq ?_
 refine vc_region ?_
 refine vp ?_
 refine vp ?_
 refine vc_y (y_neSelf rfl rfl) rfl ?_
 refine vp ?_
 refine vc_nil ?_
 refine vc_then ?_
 refine vc_ret ?_
 exact vc_end1 Tryz.results171 rfl _ (ent_pick [] rfl) ⟨rfl, rfl⟩
theorem bits_spec (b : Nat) : Does Tryz.prog 134 [.float .f64 b] [] (fun v l => v = .int .u64 ((canonB b : Nat) : Int) ∧ l = []) := by
 refine spec_of Tryz.func134 rfl Tryz.ntmps134 Tryz.results134 _ (by simp) fun ι F => ?_
 refine vc_seq ?_
 refine vc_region ?_
 refine vp ?_
 refine vc_nil ?_
 refine vc_then ?_
 refine vc_seq ?_
 refine vc_seq ?_
 refine vc_region ?_
 refine vp ?_
 refine vc_callv ca_171 (us := []) (vs := []) rfl [_] rfl [] rfl (isNaN_spec _) rfl ?_
 rintro _ _ ⟨rfl, rfl⟩
 refine vc_nil ?_
 refine vc_then ?_
 first | refine vc_condP rfl (fun c4 => ?_) (fun c4 => ?_) | refine vc_condN rfl (fun c4 => ?_) (fun c4 => ?_) | refine vc_cond rfl (fun c4 => ?_) (fun c4 => ?_)
 ·skip
  refine vc_seq ?_
  refine vc_region ?_
  refine vp ?_
  refine vc_nil ?_
  refine vc_then ?_
  refine vc_ret ?_
  refine vc_thenRet ?_
  exact vc_end1 Tryz.results134 rfl _ (ent_pick [] rfl) ⟨by simp [canonB, nanB, c4], rfl⟩
 ·skip
  refine vc_skip ?_
  refine vc_then ?_
  refine vc_seq ?_
  refine vc_region ?_
  refine vp ?_
  refine vc_y (y_ext (g := Extern.MathFloatBits.float64bits) Tryz.func140 rfl (by kernel_rfl) (by kernel_rfl) (by kernel_rfl) rfl [_] rfl (.int .u64 (b : Int)) (fun w => rfl)) rfl ?_
  refine vp ?_
  refine vc_nil ?_
  refine vc_then ?_
  refine vc_ret ?_
  exact vc_end1 Tryz.results134 rfl _ (ent_pick [] rfl) ⟨by simp [canonB, nanB, c4], rfl⟩
theorem from_spec (b : Int) : Does Tryz.prog 135 [.int .u64 b] [] (fun v l => v = .float .f64 (canonB b.toNat) ∧ l = []) := by
 refine spec_of Tryz.func135 rfl Tryz.ntmps135 Tryz.results135 _ (by simp) fun ι F => ?_
 refine vc_seq ?_
 refine vc_region ?_
 refine vp ?_
 refine vc_nil ?_
 refine vc_then ?_
 refine vc_seq ?_
 refine vc_region ?_
 refine vp ?_
 refine vc_y (y_ext (g := Extern.MathFloatBits.float64frombits) Tryz.func104 rfl (by kernel_rfl) (by kernel_rfl) (by kernel_rfl) rfl [_] rfl (.float .f64 b.toNat) (fun w => rfl)) rfl ?_
 refine vc_callv ca_134 (us := []) (vs := []) rfl [_] rfl [] rfl (bits_spec _) rfl ?_
 rintro _ _ ⟨rfl, rfl⟩
 refine vc_y (y_ext (g := Extern.MathFloatBits.float64frombits) Tryz.func104 rfl (by kernel_rfl) (by kernel_rfl) (by kernel_rfl) rfl [_] rfl (.float .f64 (canonB b.toNat)) (fun w => rfl)) rfl ?_
 refine vp ?_
 refine vc_nil ?_
 refine vc_then ?_
 refine vc_ret ?_
 exact vc_end1 Tryz.results135 rfl _ (ent_pick [] rfl) ⟨rfl, rfl⟩
theorem vright_spec (x : Val) : Does Tryz.prog 87 [.agg #[.bool x.num, .string x.text, .int .u64 x.bits]] [] (fun v l => v = .bool (valRight x) ∧ l = []) := by
 refine spec_of Tryz.func87 rfl Tryz.ntmps87 Tryz.results87 _ (by simp) fun ι F => ?_
 refine vc_seq ?_
 refine vc_region ?_
 refine vc_box [_, _, _] rfl rfl rfl (fun b1 => ?_)
 refine vp ?_
 refine vc_nil ?_
 refine vc_then ?_
 refine vc_seq ?_
 refine vc_seq ?_
 refine vc_region ?_
 refine vc_y (y_fieldP fl_45_0 0 rfl rfl) rfl ?_
 refine vc_y (y_load1 0 rfl one_4 rfl (Pts.vis rfl)) rfl ?_
 refine vc_nil ?_
 refine vc_then ?_
 first | refine vc_condP rfl (fun c4 => ?_) (fun c4 => ?_) | refine vc_condN rfl (fun c4 => ?_) (fun c4 => ?_) | refine vc_cond rfl (fun c4 => ?_) (fun c4 => ?_)
 ·skip
  refine vc_seq ?_
  refine vc_draw (by kernel_rfl) _ none [0] rfl ?_
  refine tp 0 rfl (by exact y_fieldP fl_45_1 1 rfl rfl) ?_
  refine tk 1 rfl (by exact y_load1 0 rfl one_9 rfl (Pts.vis rfl)) ?_
  refine tpp 2 ?_
  refine tpp 3 ?_
  first | refine va_splitP 8 rfl (fun c8 => ?_) (fun c8 => ?_) | refine va_splitN 8 rfl (fun c8 => ?_) (fun c8 => ?_) | refine va_split 8 rfl (fun c8 => ?_) (fun c8 => ?_)
  ·skip
   refine tg 4 8 rfl (by exact y_fieldP fl_45_2 2 rfl rfl) ?_
   refine tkg 5 8 rfl (by exact y_load1 0 rfl one_34 rfl (Pts.vis rfl)) ?_
   refine tg 8 8 rfl (by exact y_fieldP fl_45_2 2 rfl rfl) ?_
   refine tkg 9 8 rfl (by exact y_load1 0 rfl one_34 rfl (Pts.vis rfl)) ?_
   refine va_ready [6] (by kernel_rfl) rfl ?_
   refine vo_cons rfl (fun hC0 => ?_) ?_
   ·skip
    refine vc_guardT 8 rfl rfl ?_
    refine vc_callv ca_135 (us := []) (vs := []) rfl [_] rfl [] rfl (from_spec _) rfl ?_
    rintro _ _ ⟨rfl, rfl⟩
    refine vc_nil ?_
    refine vc_then ?_
    refine va_kept hC0 [0] rfl ?_
    clear hC0
    refine va_ready [7] (by kernel_rfl) rfl ?_
    refine vo_cons rfl (fun hC0 => ?_) ?_
    ·skip
     refine vc_guardT 8 rfl rfl ?_
     refine vc_callv ca_134 (us := []) (vs := []) rfl [_] rfl [] rfl (bits_spec _) rfl ?_
     rintro _ _ ⟨rfl, rfl⟩
     refine vc_nil ?_
     refine vc_then ?_
     refine va_kept hC0 [0] rfl ?_
     clear hC0
     refine tgp 10 8 ?_
     refine tpp 11 ?_
     refine tpp 12 ?_
     refine va_done (by kernel_rfl) ?_
     refine vc_then ?_
     refine vc_ret ?_
     refine vc_thenRet ?_
     exact vc_end1 Tryz.results87 rfl _ (ent_pick [] rfl) ⟨by simp [valRight, canon_canon, *], rfl⟩
    exact vo_nil
   exact vo_nil
  ·skip
   refine sk 4 8 ?_
   refine sk 5 8 ?_
   refine sk 6 8 ?_
   refine sk 7 8 ?_
   refine sk 8 8 ?_
   refine sk 9 8 ?_
   refine sk 10 8 ?_
   refine tpp 11 ?_
   refine tpp 12 ?_
   refine va_done (by kernel_rfl) ?_
   refine vc_then ?_
   refine vc_ret ?_
   refine vc_thenRet ?_
   exact vc_end1 Tryz.results87 rfl _ (ent_pick [] rfl) ⟨by simp [valRight, canon_canon, *], rfl⟩
 ·skip
  refine vc_skip ?_
  refine vc_then ?_
  refine vc_seq ?_
  refine vc_region ?_
  refine vc_y (y_fieldP fl_45_2 2 rfl rfl) rfl ?_
  refine vc_y (y_load1 0 rfl one_34 rfl (Pts.vis rfl)) rfl ?_
  refine vp ?_
  refine vp ?_
  first | refine vc_splitP 20 rfl (fun c20 => ?_) (fun c20 => ?_) | refine vc_splitN 20 rfl (fun c20 => ?_) (fun c20 => ?_) | refine vc_split 20 rfl (fun c20 => ?_) (fun c20 => ?_)
  ·skip
   refine vc_guardT 20 rfl rfl ?_
   refine vc_y (y_fieldP fl_45_1 1 rfl rfl) rfl ?_
   refine vc_guardT 20 rfl rfl ?_
   refine vc_y (y_load1 0 rfl one_9 rfl (Pts.vis rfl)) rfl ?_
   refine vc_guardT 20 rfl rfl ?_
   refine vc_y (y_strLen Tryz.underlying9 rfl) rfl ?_
   refine vc_guardT 20 rfl rfl ?_
   iterate 3 refine vp ?_
   refine vc_nil ?_
   refine vc_then ?_
   refine vc_ret ?_
   exact vc_end1 Tryz.results87 rfl _ (ent_pick [] rfl) ⟨by simp [valRight, canon_canon, *], rfl⟩
  ·skip
   refine vc_guardF 20 rfl rfl rfl rfl ?_
   refine vc_guardF 20 rfl rfl rfl rfl ?_
   refine vc_guardF 20 rfl rfl rfl rfl ?_
   refine vc_guardF 20 rfl rfl rfl rfl ?_
   refine vp ?_
   refine vp ?_
   refine vc_nil ?_
   refine vc_then ?_
   refine vc_ret ?_
   exact vc_end1 Tryz.results87 rfl _ (ent_pick [] rfl) ⟨by simp [valRight, canon_canon, *], rfl⟩
theorem cright_spec (x : Ver) : Does Tryz.prog 158 [.agg #[.int .i64 x.seq, .bool x.gone, .bool x.val.num, .string x.val.text, .int .u64 x.val.bits]] [] (fun v l => v = .bool (verRight x) ∧ l = []) := by
 refine spec_of Tryz.func158 rfl Tryz.ntmps158 Tryz.results158 _ (by simp) fun ι F => ?_
 refine vc_seq ?_
 refine vc_region ?_
 refine vc_box [_, _, _, _, _] rfl rfl rfl (fun b1 => ?_)
 refine vp ?_
 refine vc_nil ?_
 refine vc_then ?_
 refine vc_seq ?_
 refine vc_region ?_
 refine vc_y (y_fieldP fl_135_0 0 rfl rfl) rfl ?_
 refine vc_y (y_load1 0 rfl one_3 rfl (Pts.vis rfl)) rfl ?_
 refine vp ?_
 refine vp ?_
 first | refine vc_splitP 6 rfl (fun c6 => ?_) (fun c6 => ?_) | refine vc_splitN 6 rfl (fun c6 => ?_) (fun c6 => ?_) | refine vc_split 6 rfl (fun c6 => ?_) (fun c6 => ?_)
 ·skip
  refine vc_guardT 6 rfl rfl ?_
  refine vc_y (y_fieldP fl_135_0 0 rfl rfl) rfl ?_
  refine vc_guardT 6 rfl rfl ?_
  refine vc_y (y_load1 0 rfl one_3 rfl (Pts.vis rfl)) rfl ?_
  refine vc_guardT 6 rfl rfl ?_
  iterate 3 refine vp ?_
  first | refine vc_splitP 11 rfl (fun c11 => ?_) (fun c11 => ?_) | refine vc_splitN 11 rfl (fun c11 => ?_) (fun c11 => ?_) | refine vc_split 11 rfl (fun c11 => ?_) (fun c11 => ?_)
  ·skip
   refine vc_guardT 11 rfl rfl ?_
   refine vc_y (y_fieldP fl_135_2 2 rfl rfl) rfl ?_
   refine vc_guardT 11 rfl rfl ?_
   refine vc_y (y_loadA 0 rfl (cs := [_, _, _]) ag_45 rfl (Pts.visA rfl)) rfl ?_
   refine vc_guardT 11 rfl rfl ?_
   refine vc_callv ca_87 (us := []) (vs := []) rfl [_] rfl [] rfl (vright_spec x.val) rfl ?_
   rintro _ _ ⟨rfl, rfl⟩
   refine vp ?_
   refine vp ?_
   first | refine vc_splitP 16 rfl (fun c16 => ?_) (fun c16 => ?_) | refine vc_splitN 16 rfl (fun c16 => ?_) (fun c16 => ?_) | refine vc_split 16 rfl (fun c16 => ?_) (fun c16 => ?_)
   ·skip
    refine vc_guardT 16 rfl rfl ?_
    refine vc_y (y_fieldP fl_135_1 1 rfl rfl) rfl ?_
    refine vc_guardT 16 rfl rfl ?_
    refine vc_y (y_load1 0 rfl one_4 rfl (Pts.vis rfl)) rfl ?_
    refine vc_guardT 16 rfl rfl ?_
    refine vp ?_
    refine vc_guardT 16 rfl rfl ?_
    refine vp ?_
    first | refine vc_splitP 20 rfl (fun c20 => ?_) (fun c20 => ?_) | refine vc_splitN 20 rfl (fun c20 => ?_) (fun c20 => ?_) | refine vc_split 20 rfl (fun c20 => ?_) (fun c20 => ?_)
    ·skip
     refine vc_guardF 20 rfl rfl rfl rfl ?_
     refine vc_guardF 20 rfl rfl rfl rfl ?_
     refine vc_guardF 20 rfl rfl rfl rfl ?_
     refine vc_guardF 20 rfl rfl rfl rfl ?_
     refine vc_guardT 16 rfl rfl ?_
     iterate 3 refine vp ?_
     refine vc_nil ?_
     refine vc_then ?_
     refine vc_ret ?_
     exact vc_end1 Tryz.results158 rfl _ (ent_pick [] rfl) ⟨by simp [verRight, valEq, val0, *], rfl⟩
    ·skip
     refine vc_guardT 20 rfl rfl ?_
     refine vc_y (y_fieldP fl_135_2 2 rfl rfl) rfl ?_
     refine vc_guardT 20 rfl rfl ?_
     refine vc_y (y_loadA 0 rfl (cs := [_, _, _]) ag_45 rfl (Pts.visA rfl)) rfl ?_
     refine vc_guardT 20 rfl rfl ?_
     refine vc_y (y_build [] [_, _, _] rfl (bu_45_n  )) rfl ?_
     refine vc_guardT 20 rfl rfl ?_
     refine vc_y (y_eqS eg_45 (eqv_45 _ _ _ _ _ _) rfl rfl) rfl ?_
     refine vc_guardT 16 rfl rfl ?_
     iterate 3 refine vp ?_
     refine vc_nil ?_
     refine vc_then ?_
     refine vc_ret ?_
     exact vc_end1 Tryz.results158 rfl _ (ent_pick [] rfl) ⟨by simp [verRight, valEq, val0, *], rfl⟩
   ·skip
    refine vc_guardF 16 rfl rfl rfl rfl ?_
    refine vc_guardF 16 rfl rfl rfl rfl ?_
    refine vc_guardF 16 rfl rfl rfl rfl ?_
    refine vc_guardF 16 rfl rfl rfl rfl ?_
    refine vc_guardU 20 rfl rfl rfl ?_
    refine vc_guardU 20 rfl rfl rfl ?_
    refine vc_guardU 20 rfl rfl rfl ?_
    refine vc_guardU 20 rfl rfl rfl ?_
    refine vc_guardF 16 rfl rfl rfl rfl ?_
    refine vp ?_
    refine vp ?_
    refine vc_nil ?_
    refine vc_then ?_
    refine vc_ret ?_
    exact vc_end1 Tryz.results158 rfl _ (ent_pick [] rfl) ⟨by simp [verRight, valEq, val0, *], rfl⟩
  ·skip
   refine vc_guardF 11 rfl rfl rfl rfl ?_
   refine vc_guardF 11 rfl rfl rfl rfl ?_
   refine vc_guardF 11 rfl rfl rfl rfl ?_
   refine vp ?_
   refine vp ?_
   refine vc_guardF 16 rfl rfl rfl rfl ?_
   refine vc_guardF 16 rfl rfl rfl rfl ?_
   refine vc_guardF 16 rfl rfl rfl rfl ?_
   refine vc_guardF 16 rfl rfl rfl rfl ?_
   refine vc_guardU 20 rfl rfl rfl ?_
   refine vc_guardU 20 rfl rfl rfl ?_
   refine vc_guardU 20 rfl rfl rfl ?_
   refine vc_guardU 20 rfl rfl rfl ?_
   refine vc_guardF 16 rfl rfl rfl rfl ?_
   refine vp ?_
   refine vp ?_
   refine vc_nil ?_
   refine vc_then ?_
   refine vc_ret ?_
   exact vc_end1 Tryz.results158 rfl _ (ent_pick [] rfl) ⟨by simp [verRight, valEq, val0, *], rfl⟩
 ·skip
  refine vc_guardF 6 rfl rfl rfl rfl ?_
  refine vc_guardF 6 rfl rfl rfl rfl ?_
  refine vc_guardF 6 rfl rfl rfl rfl ?_
  refine vp ?_
  refine vp ?_
  refine vc_guardF 11 rfl rfl rfl rfl ?_
  refine vc_guardF 11 rfl rfl rfl rfl ?_
  refine vc_guardF 11 rfl rfl rfl rfl ?_
  refine vp ?_
  refine vp ?_
  refine vc_guardF 16 rfl rfl rfl rfl ?_
  refine vc_guardF 16 rfl rfl rfl rfl ?_
  refine vc_guardF 16 rfl rfl rfl rfl ?_
  refine vc_guardF 16 rfl rfl rfl rfl ?_
  refine vc_guardU 20 rfl rfl rfl ?_
  refine vc_guardU 20 rfl rfl rfl ?_
  refine vc_guardU 20 rfl rfl rfl ?_
  refine vc_guardU 20 rfl rfl rfl ?_
  refine vc_guardF 16 rfl rfl rfl rfl ?_
  refine vp ?_
  refine vp ?_
  refine vc_nil ?_
  refine vc_then ?_
  refine vc_ret ?_
  exact vc_end1 Tryz.results158 rfl _ (ent_pick [] rfl) ⟨by simp [verRight, valEq, val0, *], rfl⟩
end Go.Proofs.YtcpbibdbahfgaaaGreat
