/-
 What the smallest functions do: orders of strings, the search in a list that rises.
-/
import Derived.Test.YtcpbibdbahfgaaaGreatStr
import Derived.Test.YtcpbibdbahfgaaaGreatProg
import Derived.KernelRfl
set_option linter.unusedVariables false
set_option linter.unusedSimpArgs false
set_option autoImplicit false
namespace Go.Proofs.YtcpbibdbahfgaaaGreat
open Go.Eng
namespace FBase
theorem ca_227 : Callable Tryz.prog 227 := ⟨_, _, Tryz.func227, rfl, rfl⟩
theorem sl_136 : TySl Tryz.prog 136 9 1 := ⟨Tryz.underlying136, by kernel_rfl⟩
theorem one_9 : TyOne Tryz.prog 9 := ⟨⟨_, Tryz.underlying9, rfl⟩, by kernel_rfl⟩
theorem ca_197 : Callable Tryz.prog 197 := ⟨_, _, Tryz.func197, rfl, rfl⟩
theorem ca_198 : Callable Tryz.prog 198 := ⟨_, _, Tryz.func198, rfl, rfl⟩
end FBase
open FBase
def eStr : Enc ByteArray := ⟨9, 1, fun s => [.string s], fun _ => rfl, fun _ c h => by simp at h; subst h; rfl, by decide⟩
def eInt : Enc Int := ⟨3, 1, fun n => [.int .i64 n], fun _ => rfl, fun _ c h => by simp at h; subst h; rfl, by decide⟩
def eU64 : Enc Int := ⟨34, 1, fun n => [.int .u64 n], fun _ => rfl, fun _ c h => by simp at h; subst h; rfl, by decide⟩
theorem isNaNs_spec (a : ByteArray) : Does Tryz.prog 227 [.string a] [] (fun v l => v = .bool false ∧ l = []) := by
 refine spec_of Tryz.func227 rfl Tryz.ntmps227 Tryz.results227 _ (by simp) fun ι F => ?_
 refine vc_seq ?_
 refine vc_region ?_
 refine vp ?_
 refine vc_nil ?_
 refine vc_then ?_
 refine vc_seq ?_
 refine vc_region ?_
 iterate 4 refine vp ?_
 refine vc_nil ?_
 refine vc_then ?_
 refine vc_ret ?_
 exact vc_end1 Tryz.results227 rfl _ (ent_pick [] rfl) ⟨by rw [sEq_self]; rfl, rfl⟩
theorem isNaNs2_spec (a : ByteArray) : Does Tryz.prog 198 [.string a] [] (fun v l => v = .bool false ∧ l = []) := by
 refine spec_of Tryz.func198 rfl Tryz.ntmps198 Tryz.results198 _ (by simp) fun ι F => ?_
 refine vc_seq ?_
 refine vc_region ?_
 refine vp ?_
 refine vc_nil ?_
 refine vc_then ?_
 refine vc_seq ?_
 refine vc_region ?_
 iterate 4 refine vp ?_
 refine vc_nil ?_
 refine vc_then ?_
 refine vc_ret ?_
 exact vc_end1 Tryz.results198 rfl _ (ent_pick [] rfl) ⟨by rw [sEq_self]; rfl, rfl⟩
theorem lessS_spec (a b : ByteArray) : Does Tryz.prog 197 [.string a, .string b] [] (fun v l => v = .bool (sLt a b) ∧ l = []) := by
 refine spec_of Tryz.func197 rfl Tryz.ntmps197 Tryz.results197 _ (by simp) fun ι F => ?_
 refine vc_seq ?_
 refine vc_region ?_
 refine vp ?_
 refine vc_nil ?_
 refine vc_then ?_
 refine vc_seq ?_
 refine vc_region ?_
 refine vp ?_
 refine vc_callv ca_227 (us := []) (vs := []) rfl [_] rfl [] rfl (isNaNs_spec _) rfl ?_
 rintro _ _ ⟨rfl, rfl⟩
 refine vp ?_
 refine vc_guardF 7 rfl rfl rfl rfl ?_
 refine vc_guardF 7 rfl rfl rfl rfl ?_
 refine vc_guardF 7 rfl rfl rfl rfl ?_
 refine vp ?_
 refine vp ?_
 refine vc_guardT 12 rfl rfl ?_
 refine vp ?_
 refine vc_guardT 12 rfl rfl ?_
 refine vp ?_
 refine vc_guardT 12 rfl rfl ?_
 iterate 3 refine vp ?_
 refine vc_nil ?_
 refine vc_then ?_
 refine vc_ret ?_
 exact vc_end1 Tryz.results197 rfl _ (ent_pick [] rfl) ⟨rfl, rfl⟩
theorem bsS_spec {A : HP} {h : SH} {xs : List ByteArray} (hv : Vis A (Rd eStr h xs)) (hr : Rise xs) (k : ByteArray) (hb : xs.length ≤ 4611686018427387903) :
  Does Tryz.prog 168 [h.v, .string k] [A] (fun v l => v = .tuple #[.int .i64 (lb xs k : Int), .bool (fnd xs k)] ∧ l = [A]) := by
 refine spec_of Tryz.func168 rfl Tryz.ntmps168 Tryz.results168 _ (by simp) fun ι F => ?_
 refine vc_see 0 rfl (hv.imp fun w r => r.len) (fun hlen => ?_)
 have hlb := lb_le xs k
 refine vc_seq ?_
 refine vc_region ?_
 refine vp ?_
 refine vp ?_
 refine vc_nil ?_
 refine vc_then ?_
 refine vc_seq ?_
 refine vc_region ?_
 refine vp ?_
 refine vc_y (y_len Tryz.underlying136 rfl (by first | assumption | rfl)) rfl ?_
 refine vp ?_
 refine vc_nil ?_
 refine vc_then ?_
 refine vc_seq ?_
 refine vc_region ?_
 iterate 3 refine vp ?_
 refine vc_nil ?_
 refine vc_then ?_
 refine vc_seq ?_
 refine vc_block ?_
 refine vc_loop (α := Nat × Nat) (fun x => match x with | (i, j) => [(0, h.v), (1, .string k), (6, .int .i64 (xs.length : Int)), (7, .int .i64 (i : Int)), (8, .int .i64 (j : Int))]) (fun x => match x with | (i, j) => [A]) (fun x => match x with | (i, j) => j - i) (fun x => match x with | (i, j) => i ≤ lb xs k ∧ lb xs k ≤ j ∧ j ≤ xs.length) (0, xs.length) ⟨Nat.zero_le _, hlb, Nat.le_refl _⟩ ⟨rfl, rfl, rfl, rfl, rfl, trivial⟩ (ent_pick [0] rfl) ?_
 rintro ⟨i, j⟩ ⟨h1, h2, h3⟩
 show VC _ _ _ _ [(0, h.v), (1, .string k), (6, .int .i64 (xs.length : Int)), (7, .int .i64 (i : Int)), (8, .int .i64 (j : Int))] ([A])
 refine vc_seq ?_
 refine vc_seq ?_
 refine vc_region ?_
 iterate 3 refine vp ?_
 refine vc_nil ?_
 refine vc_then ?_
 first | refine vc_condP rfl (fun c15 => ?_) (fun c15 => ?_) | refine vc_condN rfl (fun c15 => ?_) (fun c15 => ?_) | refine vc_cond rfl (fun c15 => ?_) (fun c15 => ?_)
 ·skip
  refine vc_skip ?_
  refine vc_then ?_
  refine vc_block ?_
  refine vc_seq ?_
  refine vc_region ?_
  refine vp ?_
  refine vp ?_
  first | refine vc_y (y_arith _ rfl (wrap64 (by omega) (by omega))) rfl ?_ | refine vp ?_
  first | refine vc_y (y_conv _ Tryz.underlying3 Tryz.underlying170 rfl (wrapU64 (by omega) (by omega))) rfl ?_ | refine vc_y (y_conv _ Tryz.underlying3 Tryz.underlying170 rfl rfl) rfl ?_
  refine vc_y (y_shr (((i + j) / 2 : Nat) : Int) rfl rfl (by decide) (shr1 i j)) rfl ?_
  first | refine vc_y (y_conv _ Tryz.underlying170 Tryz.underlying3 rfl (wrap64 (by omega) (by omega))) rfl ?_ | refine vc_y (y_conv _ Tryz.underlying170 Tryz.underlying3 rfl rfl) rfl ?_
  refine vp ?_
  refine vc_nil ?_
  refine vc_then ?_
  refine vc_seq ?_
  refine vc_region ?_
  refine vp ?_
  refine vp ?_
  refine vc_y (y_elem 0 rfl (hv) _ rfl (by first | assumption | omega) sl_136 rfl rfl) rfl ?_
  refine vc_y (y_load1 0 rfl one_9 rfl (Rd.vis1 (hv) (List.getElem?_eq_getElem (by first | assumption | omega)) rfl)) rfl ?_
  refine vp ?_
  refine vc_callv ca_197 (us := []) (vs := []) rfl [_, _] rfl [] rfl (lessS_spec _ _) rfl ?_
  rintro _ _ ⟨rfl, rfl⟩
  refine vc_nil ?_
  refine vc_then ?_
  first | refine vc_condP rfl (fun c27 => ?_) (fun c27 => ?_) | refine vc_condN rfl (fun c27 => ?_) (fun c27 => ?_) | refine vc_cond rfl (fun c27 => ?_) (fun c27 => ?_)
  ·skip
   refine vc_region ?_
   refine vp ?_
   first | refine vc_y (y_arith _ rfl (wrapNadd (by omega))) rfl ?_ | refine vc_y (y_arith _ rfl (wrap64 (by omega) (by omega))) rfl ?_ | refine vp ?_
   refine vp ?_
   refine vc_nil ?_
   refine vc_inNormal ?_
   refine vc_then ?_
   first | exact vc_again (x := (i, j)) ((i + j) / 2 + 1, j) ⟨by have := (lb_iff hr k (i := (i + j) / 2) (by omega)).1 c27; omega, h2, h3⟩ (by show j - ((i + j) / 2 + 1) < j - i; omega) ⟨rfl, rfl, rfl, rfl, rfl, trivial⟩ (ent_pick [0] rfl) | exact vc_again (x := (i, j)) (i, (i + j) / 2) ⟨h1, by have := mt (lb_iff hr k (i := (i + j) / 2) (by omega)).2 (by rw [c27]; simp); omega, by omega⟩ (by show (i + j) / 2 - i < j - i; omega) ⟨rfl, rfl, rfl, rfl, rfl, trivial⟩ (ent_pick [0] rfl)
  ·skip
   refine vc_region ?_
   refine vp ?_
   refine vp ?_
   refine vc_nil ?_
   refine vc_inNormal ?_
   refine vc_then ?_
   first | exact vc_again (x := (i, j)) ((i + j) / 2 + 1, j) ⟨by have := (lb_iff hr k (i := (i + j) / 2) (by omega)).1 c27; omega, h2, h3⟩ (by show j - ((i + j) / 2 + 1) < j - i; omega) ⟨rfl, rfl, rfl, rfl, rfl, trivial⟩ (ent_pick [0] rfl) | exact vc_again (x := (i, j)) (i, (i + j) / 2) ⟨h1, by have := mt (lb_iff hr k (i := (i + j) / 2) (by omega)).2 (by rw [c27]; simp); omega, by omega⟩ (by show (i + j) / 2 - i < j - i; omega) ⟨rfl, rfl, rfl, rfl, rfl, trivial⟩ (ent_pick [0] rfl)
 ·skip
  obtain rfl : i = lb xs k := by omega
  refine vc_exit ?_
  refine vc_thenExit ?_
  refine vc_thenExit ?_
  refine vc_inExit ?_
  refine vc_then ?_
  refine vc_seq ?_
  refine vc_region ?_
  iterate 5 refine vp ?_
  first | refine vc_splitP 35 rfl (fun c35 => ?_) (fun c35 => ?_) | refine vc_splitN 35 rfl (fun c35 => ?_) (fun c35 => ?_) | refine vc_split 35 rfl (fun c35 => ?_) (fun c35 => ?_)
  ·skip
   refine vc_guardT 35 rfl rfl ?_
   refine vp ?_
   refine vc_guardT 35 rfl rfl ?_
   refine vp ?_
   refine vc_guardT 35 rfl rfl ?_
   refine vc_y (y_elem 0 rfl (hv) _ rfl (by first | assumption | omega) sl_136 rfl rfl) rfl ?_
   refine vc_guardT 35 rfl rfl ?_
   refine vc_y (y_load1 0 rfl one_9 rfl (Rd.vis1 (hv) (List.getElem?_eq_getElem (by first | assumption | omega)) rfl)) rfl ?_
   refine vc_guardT 35 rfl rfl ?_
   refine vp ?_
   refine vc_guardT 35 rfl rfl ?_
   refine vp ?_
   refine vc_guardT 35 rfl rfl ?_
   refine vp ?_
   first | refine vc_splitP 42 rfl (fun c42 => ?_) (fun c42 => ?_) | refine vc_splitN 42 rfl (fun c42 => ?_) (fun c42 => ?_) | refine vc_split 42 rfl (fun c42 => ?_) (fun c42 => ?_)
   ·skip
    refine vc_guardF 42 rfl rfl rfl rfl ?_
    refine vc_guardF 42 rfl rfl rfl rfl ?_
    refine vc_guardF 42 rfl rfl rfl rfl ?_
    refine vc_guardF 42 rfl rfl rfl rfl ?_
    refine vc_guardF 42 rfl rfl rfl rfl ?_
    refine vc_guardF 42 rfl rfl rfl rfl ?_
    refine vc_guardU 48 rfl rfl rfl ?_
    refine vc_guardU 48 rfl rfl rfl ?_
    refine vc_guardF 42 rfl rfl rfl rfl ?_
    refine vc_guardT 35 rfl rfl ?_
    iterate 4 refine vp ?_
    refine vc_nil ?_
    refine vc_then ?_
    refine vc_ret ?_
    exact vc_end2 Tryz.results168 rfl rfl _ (ent_pick [0] rfl) ⟨by simp [fnd, show lb xs k < xs.length by omega, c42], rfl⟩
   ·skip
    refine vc_guardT 42 rfl rfl ?_
    refine vp ?_
    refine vc_guardT 42 rfl rfl ?_
    refine vp ?_
    refine vc_guardT 42 rfl rfl ?_
    refine vc_y (y_elem 0 rfl (hv) _ rfl (by first | assumption | omega) sl_136 rfl rfl) rfl ?_
    refine vc_guardT 42 rfl rfl ?_
    refine vc_y (y_load1 0 rfl one_9 rfl (Rd.vis1 (hv) (List.getElem?_eq_getElem (by first | assumption | omega)) rfl)) rfl ?_
    refine vc_guardT 42 rfl rfl ?_
    refine vc_callv ca_198 (us := []) (vs := []) rfl [_] rfl [] rfl (isNaNs2_spec _) rfl ?_
    rintro _ _ ⟨rfl, rfl⟩
    refine vc_guardT 42 rfl rfl ?_
    refine vp ?_
    refine vc_guardF 48 rfl rfl rfl rfl ?_
    refine vc_guardF 48 rfl rfl rfl rfl ?_
    refine vc_guardT 42 rfl rfl ?_
    refine vp ?_
    refine vc_guardT 35 rfl rfl ?_
    iterate 4 refine vp ?_
    refine vc_nil ?_
    refine vc_then ?_
    refine vc_ret ?_
    exact vc_end2 Tryz.results168 rfl rfl _ (ent_pick [0] rfl) ⟨by simp [fnd, show lb xs k < xs.length by omega, c42], rfl⟩
  ·skip
   refine vc_guardF 35 rfl rfl rfl rfl ?_
   refine vc_guardF 35 rfl rfl rfl rfl ?_
   refine vc_guardF 35 rfl rfl rfl rfl ?_
   refine vc_guardF 35 rfl rfl rfl rfl ?_
   refine vc_guardF 35 rfl rfl rfl rfl ?_
   refine vc_guardF 35 rfl rfl rfl rfl ?_
   refine vc_guardF 35 rfl rfl rfl rfl ?_
   refine vc_guardU 42 rfl rfl rfl ?_
   refine vc_guardU 42 rfl rfl rfl ?_
   refine vc_guardU 42 rfl rfl rfl ?_
   refine vc_guardU 42 rfl rfl rfl ?_
   refine vc_guardU 42 rfl rfl rfl ?_
   refine vc_guardU 42 rfl rfl rfl ?_
   refine vc_guardU 48 rfl rfl rfl ?_
   refine vc_guardU 48 rfl rfl rfl ?_
   refine vc_guardU 42 rfl rfl rfl ?_
   refine vc_guardF 35 rfl rfl rfl rfl ?_
   iterate 3 refine vp ?_
   refine vc_nil ?_
   refine vc_then ?_
   refine vc_ret ?_
   exact vc_end2 Tryz.results168 rfl rfl _ (ent_pick [0] rfl) ⟨by simp [fnd, show ¬ lb xs k < xs.length by omega], rfl⟩
end Go.Proofs.YtcpbibdbahfgaaaGreat
