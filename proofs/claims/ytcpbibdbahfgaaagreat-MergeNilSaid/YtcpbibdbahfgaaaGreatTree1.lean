/-
 The walks of the tree's functions that only read.
-/
import Derived.Test.YtcpbibdbahfgaaaGreatTreeP
set_option linter.unusedVariables false
set_option linter.unusedSimpArgs false
set_option autoImplicit false
namespace Go.Proofs.YtcpbibdbahfgaaaGreat
open Go.Eng
namespace FTree1
theorem fl_231_2 : Fld Tryz.prog 231 2 2 := ⟨_, _, 0, Tryz.underlying231, rfl, rfl, by kernel_rfl⟩
theorem one_72 : TyOne Tryz.prog 72 := ⟨⟨_, Tryz.underlying72, rfl⟩, by kernel_rfl⟩
theorem ca_163 : Callable Tryz.prog 163 := ⟨_, _, Tryz.func163, rfl, rfl⟩
theorem fl_231_0 : Fld Tryz.prog 231 0 0 := ⟨_, _, 0, Tryz.underlying231, rfl, rfl, by kernel_rfl⟩
theorem one_136 : TyOne Tryz.prog 136 := ⟨⟨_, Tryz.underlying136, rfl⟩, by kernel_rfl⟩
theorem ca_168 : Callable Tryz.prog 168 := ⟨_, _, Tryz.func168, rfl, rfl⟩
theorem ep_129 : Tryz.prog.underlying 129 = some (.pointer (Tryz.prog.pointee 129)) := by kernel_rfl
theorem fl_204_2 : Fld Tryz.prog 204 2 2 := ⟨_, _, 0, Tryz.underlying204, rfl, rfl, by kernel_rfl⟩
theorem one_3 : TyOne Tryz.prog 3 := ⟨⟨_, Tryz.underlying3, rfl⟩, by kernel_rfl⟩
theorem fl_204_0 : Fld Tryz.prog 204 0 0 := ⟨_, _, 0, Tryz.underlying204, rfl, rfl, by kernel_rfl⟩
theorem one_202 : TyOne Tryz.prog 202 := ⟨⟨_, Tryz.underlying202, rfl⟩, by kernel_rfl⟩
theorem sl_202 : TySl Tryz.prog 202 231 3 := ⟨Tryz.underlying202, by kernel_rfl⟩
theorem ca_169 : Callable Tryz.prog 169 := ⟨_, _, Tryz.func169, rfl, rfl⟩
theorem sl_72 : TySl Tryz.prog 72 3 1 := ⟨Tryz.underlying72, by kernel_rfl⟩
end FTree1
open FTree1
theorem leaf_spec {A : HP} {ad : Addr} {k : SH} (hk : Vis A (fun w => w.cell? (ad.add 2) = some k.v)) :
  Does Tryz.prog 163 [.pointer (some ad)] [A] (fun v l => v = .bool (decide ((k.len : Int) = 0)) ∧ l = [A]) := by
 refine spec_of Tryz.func163 rfl Tryz.ntmps163 Tryz.results163 _ (by simp) fun ι F => ?_
 refine vc_seq ?_
 refine vc_region ?_
 refine vp ?_
 refine vc_nil ?_
 refine vc_then ?_
 refine vc_seq ?_
 refine vc_region ?_
 refine vp ?_
 refine vp ?_
 refine vc_y (y_fieldG fl_231_2 rfl) rfl ?_
 refine vc_y (y_load1 0 rfl one_72 rfl (hk)) rfl ?_
 refine vc_y (y_len Tryz.underlying72 rfl (by first | assumption | rfl)) rfl ?_
 refine vp ?_
 refine vp ?_
 refine vc_nil ?_
 refine vc_then ?_
 refine vc_ret ?_
 exact vc_end1 Tryz.results163 rfl _ (ent_pick [0] rfl) ⟨rfl, rfl⟩
theorem size_spec {A : HP} {ad : Addr} {k c : SH} (hk : Vis A (fun w => w.cell? (ad.add 0) = some k.v)) (hc : Vis A (fun w => w.cell? (ad.add 2) = some c.v)) :
  Does Tryz.prog 166 [.pointer (some ad)] [A] (fun v l => v = .int .i64 ((if c.len = 0 then k.len else c.len : Nat) : Int) ∧ l = [A]) := by
 refine spec_of Tryz.func166 rfl Tryz.ntmps166 Tryz.results166 _ (by simp) fun ι F => ?_
 refine vc_seq ?_
 refine vc_region ?_
 refine vp ?_
 refine vc_nil ?_
 refine vc_then ?_
 refine vc_seq ?_
 refine vc_seq ?_
 refine vc_region ?_
 refine vp ?_
 refine vc_callv ca_163 (us := []) (vs := []) rfl [_] rfl [0] rfl (leaf_spec hc) rfl ?_
 rintro _ _ ⟨rfl, rfl⟩
 refine vc_nil ?_
 refine vc_then ?_
 first | refine vc_condP rfl (fun c4 => ?_) (fun c4 => ?_) | refine vc_condN rfl (fun c4 => ?_) (fun c4 => ?_) | refine vc_cond rfl (fun c4 => ?_) (fun c4 => ?_)
 ·skip
  refine vc_seq ?_
  refine vc_region ?_
  refine vp ?_
  refine vp ?_
  refine vc_y (y_fieldG fl_231_0 rfl) rfl ?_
  refine vc_y (y_load1 0 rfl one_136 rfl (hk)) rfl ?_
  refine vc_y (y_len Tryz.underlying136 rfl (by first | assumption | rfl)) rfl ?_
  refine vp ?_
  refine vc_nil ?_
  refine vc_then ?_
  refine vc_ret ?_
  refine vc_thenRet ?_
  exact vc_end1 Tryz.results166 rfl _ (ent_pick [0] rfl) ⟨by simp at c4; simp [c4], rfl⟩
 ·skip
  refine vc_skip ?_
  refine vc_then ?_
  refine vc_seq ?_
  refine vc_region ?_
  refine vp ?_
  refine vp ?_
  refine vc_y (y_fieldG fl_231_2 rfl) rfl ?_
  refine vc_y (y_load1 0 rfl one_72 rfl (hc)) rfl ?_
  refine vc_y (y_len Tryz.underlying72 rfl (by first | assumption | rfl)) rfl ?_
  refine vp ?_
  refine vc_nil ?_
  refine vc_then ?_
  refine vc_ret ?_
  exact vc_end1 Tryz.results166 rfl _ (ent_pick [0] rfl) ⟨by simp at c4; simp [c4], rfl⟩
theorem way_spec {A : HP} {ad : Addr} {k : SH} {d : Nd} (hk : Vis A (fun w => w.cell? (ad.add 0) = some k.v)) (hv : Vis A (Rd eStr k d.keys)) (hr : Rise d.keys) (hb : d.keys.length ≤ 1000000) (key : ByteArray) :
  Does Tryz.prog 169 [.pointer (some ad), .string key] [A] (fun v l => v = .int .i64 (wayN d key : Int) ∧ l = [A]) := by
 refine spec_of Tryz.func169 rfl Tryz.ntmps169 Tryz.results169 _ (by simp) fun ι F => ?_
 have hlb := lb_le d.keys key
 refine vc_seq ?_
 refine vc_region ?_
 refine vp ?_
 refine vc_nil ?_
 refine vc_then ?_
 refine vc_seq ?_
 refine vc_region ?_
 refine vp ?_
 refine vp ?_
 refine vc_y (y_fieldG fl_231_0 rfl) rfl ?_
 refine vc_y (y_load1 0 rfl one_136 rfl (hk)) rfl ?_
 refine vp ?_
 refine vc_callv ca_168 (us := []) (vs := []) rfl [_, _] rfl [0] rfl (bsS_spec hv hr key (by omega)) rfl ?_
 rintro _ _ ⟨rfl, rfl⟩
 iterate 5 refine vp ?_
 refine vc_nil ?_
 refine vc_then ?_
 refine vc_seq ?_
 refine vc_seq ?_
 refine vc_region ?_
 refine vp ?_
 refine vc_nil ?_
 refine vc_then ?_
 first | refine vc_condP rfl (fun c16 => ?_) (fun c16 => ?_) | refine vc_condN rfl (fun c16 => ?_) (fun c16 => ?_) | refine vc_cond rfl (fun c16 => ?_) (fun c16 => ?_)
 ·skip
  refine vc_region ?_
  refine vp ?_
  first | refine vc_y (y_arith _ rfl (wrapNadd (by omega))) rfl ?_ | refine vc_y (y_arith _ rfl (wrap64 (by omega) (by omega))) rfl ?_ | refine vp ?_
  refine vp ?_
  refine vc_nil ?_
  refine vc_then ?_
  refine vc_seq ?_
  refine vc_region ?_
  refine vp ?_
  refine vp ?_
  refine vc_nil ?_
  refine vc_then ?_
  refine vc_ret ?_
  exact vc_end1 Tryz.results169 rfl _ (ent_pick [0] rfl) ⟨by simp [wayN, c16], rfl⟩
 ·skip
  refine vc_skip ?_
  refine vc_then ?_
  refine vc_seq ?_
  refine vc_region ?_
  refine vp ?_
  refine vp ?_
  refine vc_nil ?_
  refine vc_then ?_
  refine vc_ret ?_
  exact vc_end1 Tryz.results169 rfl _ (ent_pick [0] rfl) ⟨by simp [wayN, c16], rfl⟩
theorem find_some {b : Nat} {l : List Nd} {fr : List Nat} {r : Nat} {m : Int} {hl hf : SH} {hs : List Nd3} (hlen : hs.length = l.length) (hR : RiseAll l) (key : ByteArray) {f jl : Nat} (hdsc : dsc f l r key = some jl) {d : Nd} (hjd : l[jl]? = some d) :
  Does Tryz.prog 157 [.pointer (some ⟨b, 0, none⟩), .string key] (TO b ⟨l, fr, some r, m⟩ hl hf hs) (fun v l' => v = .tuple #[.pointer (some (eAd hl 3 jl 0)), .int .i64 (lb d.keys key : Int), .bool (fnd d.keys key)] ∧ l' = TO b ⟨l, fr, some r, m⟩ hl hf hs) := by
 refine spec_of Tryz.func157 rfl Tryz.ntmps157 Tryz.results157 _ (by simp) fun ι F => ?_
 refine vc_seq ?_
 refine vc_region ?_
 iterate 3 refine vp ?_
 refine vc_nil ?_
 refine vc_then ?_
 refine vc_seq ?_
 refine vc_seq ?_
 refine vc_region ?_
 refine vp ?_
 refine vc_y (y_eqNil ep_129 rfl rfl) rfl ?_
 refine vp ?_
 refine vc_guardT 12 rfl rfl ?_
 refine vp ?_
 refine vc_guardT 12 rfl rfl ?_
 refine vp ?_
 refine vc_guardT 12 rfl rfl ?_
 refine vc_y (y_fieldP fl_204_2 2 rfl rfl) rfl ?_
 refine vc_guardT 12 rfl rfl ?_
 refine vc_y (y_load1 0 rfl one_3 rfl (Pts.vis rfl)) rfl ?_
 refine vc_guardT 12 rfl rfl ?_
 refine vp ?_
 refine vp ?_
 refine vc_nil ?_
 refine vc_then ?_
 first | refine vc_condP rfl (fun c18 => ?_) (fun c18 => ?_) | refine vc_condN rfl (fun c18 => ?_) (fun c18 => ?_) | refine vc_cond rfl (fun c18 => ?_) (fun c18 => ?_)
 ·skip
  exact absurd c18 (by show ¬ ((r : Int) < 0); omega)
 ·skip
  refine vc_skip ?_
  refine vc_then ?_
  refine vc_seq ?_
  refine vc_draw (by kernel_rfl) _ none [0, 0, 0, 0] rfl ?_
  refine tpp 0 ?_
  refine tpp 1 ?_
  refine tp 2 rfl (by exact y_fieldP fl_204_0 0 rfl rfl) ?_
  refine tk 3 rfl (by exact y_load1 0 rfl one_202 rfl (Pts.vis rfl)) ?_
  refine tpp 4 ?_
  refine tpp 5 ?_
  refine tp 6 rfl (by exact y_fieldP fl_204_2 2 rfl rfl) ?_
  refine tk 7 rfl (by exact y_load1 0 rfl one_3 rfl (Pts.vis rfl)) ?_
  refine tk 8 rfl (by exact y_elem 1 rfl (Sl.vis) r rfl (by have := dsc_lt hdsc; omega) sl_202 rfl rfl) ?_
  refine tpp 9 ?_
  refine va_done (by kernel_rfl) ?_
  refine vc_then ?_
  refine vc_seq ?_
  refine vc_block ?_
  refine vc_loop (α := Nat × Nat) (fun x => match x with | (j, f) => [(0, .pointer (some ⟨b, 0, none⟩)), (1, .string key), (7, .pointer (some (eAd hl 3 j 0)))]) (fun x => match x with | (j, f) => TO b ⟨l, fr, some r, m⟩ hl hf hs) (fun x => match x with | (j, f) => f) (fun x => match x with | (j, f) => dsc f l j key = some jl) (r, f) hdsc ⟨rfl, rfl, rfl, trivial⟩ (ent_pick [0, 0, 0, 0] rfl) ?_
  rintro ⟨j, f⟩ hok
  show VC _ _ _ _ [(0, .pointer (some ⟨b, 0, none⟩)), (1, .string key), (7, .pointer (some (eAd hl 3 j 0)))] (TO b ⟨l, fr, some r, m⟩ hl hf hs)
  obtain ⟨f, d1, rfl, hd, hcase⟩ := dsc_some hok
  obtain ⟨h, hh⟩ := getSome hlen hd
  refine vc_see 3 rfl ((Nodes.visC hh hd).imp fun w r => r.len) (fun hcl => ?_)
  refine vc_seq ?_
  refine vc_seq ?_
  refine vc_region ?_
  refine vp ?_
  refine vc_callv ca_163 (us := []) (vs := []) rfl [_] rfl [1] rfl (leaf_spec (k := h.c) (Rd.vis1 Sl.vis hh rfl)) rfl ?_
  rintro _ _ ⟨rfl, rfl⟩
  refine vp ?_
  refine vc_nil ?_
  refine vc_then ?_
  first | refine vc_condP rfl (fun c30 => ?_) (fun c30 => ?_) | refine vc_condN rfl (fun c30 => ?_) (fun c30 => ?_) | refine vc_cond rfl (fun c30 => ?_) (fun c30 => ?_)
  ·skip
   rcases hcase with ⟨hk0, _⟩ | ⟨hk0, c, hc, hdc⟩
   ·exact absurd (by rw [hcl, hk0]; rfl) c30
   refine vc_skip ?_
   refine vc_then ?_
   refine vc_block ?_
   refine vc_draw (by kernel_rfl) _ none [0, 0, 0, 0] rfl ?_
   refine tpp 0 ?_
   refine tpp 1 ?_
   refine tp 2 rfl (by exact y_fieldP fl_204_0 0 rfl rfl) ?_
   refine tk 3 rfl (by exact y_load1 1 rfl one_202 rfl (Pts.vis rfl)) ?_
   refine tpp 4 ?_
   refine tpp 5 ?_
   refine tp 6 rfl (by exact y_fieldE fl_231_2 2 rfl rfl) ?_
   refine tk 7 rfl (by exact y_load1 0 rfl one_72 rfl (Rd.vis1 (Sl.vis) hh rfl)) ?_
   refine tpp 8 ?_
   refine tpp 9 ?_
   refine va_ready [10] (by kernel_rfl) rfl ?_
   refine vo_cons rfl (fun hC0 => ?_) ?_
   ·skip
    refine vc_callv ca_169 (us := []) (vs := []) rfl [_, _] rfl [0, 2] rfl ((way_spec (d := d1) (k := h.k) (A := seps [Sl eNode hl hs, Nodes hs l]) (Vis.at 0 rfl (Rd.vis1 Sl.vis hh rfl)) (Vis.at 1 rfl (Nodes.visK hh hd)) (hR _ _ hd).1 (hR _ _ hd).2.1 key).many) rfl ?_
    rintro _ _ ⟨rfl, rfl⟩
    refine vc_nil ?_
    refine vc_then ?_
    refine va_kept hC0 [0, 1, 1, 0] rfl ?_
    refine tk 11 rfl (by exact y_elem 3 rfl (Nodes.visC hh hd) (wayN d1 key) rfl (getLt hc) sl_72 rfl rfl) ?_
    refine tk 12 rfl (by exact y_load1 3 rfl one_3 rfl (Rd.vis1 (Nodes.visC hh hd) hc rfl)) ?_
    refine tk 13 rfl (by exact y_elem 0 rfl (Sl.vis) c rfl (by have := dsc_lt hdc; omega) sl_202 rfl rfl) ?_
    refine tpp 14 ?_
    refine va_done (by kernel_rfl) ?_
    refine vc_inNormal ?_
    refine vc_then ?_
    exact vc_again (x := (j, f + 1)) (c, f) hdc (by show f < f + 1; omega) ⟨rfl, rfl, rfl, trivial⟩ (ent_pick [2, 0, 1, 0] rfl)
   exact vo_nil
  ·skip
   obtain ⟨hk0, rfl⟩ : d1.kids = [] ∧ j = jl := by
    rcases hcase with h0 | ⟨h0, _⟩
    ·exact h0
    ·exact absurd (List.eq_nil_of_length_eq_zero (by omega)) h0
   obtain rfl : d = d1 := by rw [hjd] at hd; exact Option.some.inj hd
   refine vc_exit ?_
   refine vc_thenExit ?_
   refine vc_thenExit ?_
   refine vc_inExit ?_
   refine vc_then ?_
   refine vc_seq ?_
   refine vc_region ?_
   refine vp ?_
   refine vp ?_
   refine vc_y (y_fieldE fl_231_0 0 rfl rfl) rfl ?_
   refine vc_y (y_load1 0 rfl one_136 rfl (Rd.vis1 (Sl.vis) hh rfl)) rfl ?_
   refine vp ?_
   refine vc_callv ca_168 (us := []) (vs := []) rfl [_, _] rfl [3] rfl (bsS_spec (Nodes.visK hh hd) (hR _ _ hd).1 key (by have := (hR _ _ hd).2.1; omega)) rfl ?_
   rintro _ _ ⟨rfl, rfl⟩
   iterate 5 refine vp ?_
   refine vc_nil ?_
   refine vc_then ?_
   refine vc_seq ?_
   refine vc_region ?_
   iterate 6 refine vp ?_
   refine vc_nil ?_
   refine vc_then ?_
   refine vc_ret ?_
   exact vc_end3 Tryz.results157 rfl rfl rfl _ (ent_pick [2, 1, 1, 0] rfl) ⟨rfl, rfl⟩
theorem find_none {b : Nat} {l : List Nd} {fr : List Nat} {m : Int} {hl hf : SH} {hs : List Nd3} (key : ByteArray) :
  Does Tryz.prog 157 [.pointer (some ⟨b, 0, none⟩), .string key] (TO b ⟨l, fr, none, m⟩ hl hf hs) (fun v l' => v = .tuple #[.pointer none, .int .i64 0, .bool false] ∧ l' = TO b ⟨l, fr, none, m⟩ hl hf hs) := by
 refine spec_of Tryz.func157 rfl Tryz.ntmps157 Tryz.results157 _ (by simp) fun ι F => ?_
 refine vc_seq ?_
 refine vc_region ?_
 iterate 3 refine vp ?_
 refine vc_nil ?_
 refine vc_then ?_
 refine vc_seq ?_
 refine vc_seq ?_
 refine vc_region ?_
 refine vp ?_
 refine vc_y (y_eqNil ep_129 rfl rfl) rfl ?_
 refine vp ?_
 refine vc_guardT 12 rfl rfl ?_
 refine vp ?_
 refine vc_guardT 12 rfl rfl ?_
 refine vp ?_
 refine vc_guardT 12 rfl rfl ?_
 refine vc_y (y_fieldP fl_204_2 2 rfl rfl) rfl ?_
 refine vc_guardT 12 rfl rfl ?_
 refine vc_y (y_load1 0 rfl one_3 rfl (Pts.vis rfl)) rfl ?_
 refine vc_guardT 12 rfl rfl ?_
 refine vp ?_
 refine vp ?_
 refine vc_nil ?_
 refine vc_then ?_
 first | refine vc_condP rfl (fun c18 => ?_) (fun c18 => ?_) | refine vc_condN rfl (fun c18 => ?_) (fun c18 => ?_) | refine vc_cond rfl (fun c18 => ?_) (fun c18 => ?_)
 ·skip
  refine vc_seq ?_
  refine vc_region ?_
  iterate 3 refine vp ?_
  refine vc_nil ?_
  refine vc_then ?_
  refine vc_ret ?_
  refine vc_thenRet ?_
  exact vc_end3 Tryz.results157 rfl rfl rfl _ (ent_pick [0, 0, 0, 0] rfl) ⟨rfl, rfl⟩
 ·skip
  exact absurd (by show (-1 : Int) < 0; omega) c18
end Go.Proofs.YtcpbibdbahfgaaaGreat
