/-
 More walks of the tree's functions that only read.
-/
import Derived.Test.YtcpbibdbahfgaaaGreatTree1
set_option linter.unusedVariables false
set_option linter.unusedSimpArgs false
set_option autoImplicit false
namespace Go.Proofs.YtcpbibdbahfgaaaGreat
open Go.Eng
namespace FTree2
theorem ca_157 : Callable Tryz.prog 157 := ⟨_, _, Tryz.func157, rfl, rfl⟩
theorem fl_231_1 : Fld Tryz.prog 231 1 1 := ⟨_, _, 0, Tryz.underlying231, rfl, rfl, by kernel_rfl⟩
theorem one_72 : TyOne Tryz.prog 72 := ⟨⟨_, Tryz.underlying72, rfl⟩, by kernel_rfl⟩
theorem sl_72 : TySl Tryz.prog 72 3 1 := ⟨Tryz.underlying72, by kernel_rfl⟩
theorem one_3 : TyOne Tryz.prog 3 := ⟨⟨_, Tryz.underlying3, rfl⟩, by kernel_rfl⟩
theorem ep_129 : Tryz.prog.underlying 129 = some (.pointer (Tryz.prog.pointee 129)) := by kernel_rfl
theorem fl_204_2 : Fld Tryz.prog 204 2 2 := ⟨_, _, 0, Tryz.underlying204, rfl, rfl, by kernel_rfl⟩
theorem fl_204_3 : Fld Tryz.prog 204 3 3 := ⟨_, _, 0, Tryz.underlying204, rfl, rfl, by kernel_rfl⟩
theorem fl_204_0 : Fld Tryz.prog 204 0 0 := ⟨_, _, 0, Tryz.underlying204, rfl, rfl, by kernel_rfl⟩
theorem one_202 : TyOne Tryz.prog 202 := ⟨⟨_, Tryz.underlying202, rfl⟩, by kernel_rfl⟩
theorem sl_202 : TySl Tryz.prog 202 231 3 := ⟨Tryz.underlying202, by kernel_rfl⟩
theorem ca_163 : Callable Tryz.prog 163 := ⟨_, _, Tryz.func163, rfl, rfl⟩
theorem fl_231_2 : Fld Tryz.prog 231 2 2 := ⟨_, _, 0, Tryz.underlying231, rfl, rfl, by kernel_rfl⟩
theorem fl_231_0 : Fld Tryz.prog 231 0 0 := ⟨_, _, 0, Tryz.underlying231, rfl, rfl, by kernel_rfl⟩
theorem one_136 : TyOne Tryz.prog 136 := ⟨⟨_, Tryz.underlying136, rfl⟩, by kernel_rfl⟩
theorem sl_136 : TySl Tryz.prog 136 9 1 := ⟨Tryz.underlying136, by kernel_rfl⟩
theorem one_9 : TyOne Tryz.prog 9 := ⟨⟨_, Tryz.underlying9, rfl⟩, by kernel_rfl⟩
theorem ca_168 : Callable Tryz.prog 168 := ⟨_, _, Tryz.func168, rfl, rfl⟩
theorem ca_169 : Callable Tryz.prog 169 := ⟨_, _, Tryz.func169, rfl, rfl⟩
theorem ca_133 : Callable Tryz.prog 133 := ⟨_, _, Tryz.func133, rfl, rfl⟩
theorem ca_170 : Callable Tryz.prog 170 := ⟨_, _, Tryz.func170, rfl, rfl⟩
theorem ca_132 : Callable Tryz.prog 132 := ⟨_, _, Tryz.func132, rfl, rfl⟩
end FTree2
open FTree2
theorem get_some {b : Nat} {l : List Nd} {fr : List Nat} {r : Nat} {m : Int} {hl hf : SH} {hs : List Nd3} (hlen : hs.length = l.length) (hR : RiseAll l) (key : ByteArray) {f jl : Nat} (hdsc : dsc f l r key = some jl) {d : Nd} (hjd : l[jl]? = some d) (hn : d.nums.length = d.keys.length) :
  Does Tryz.prog 126 [.pointer (some ⟨b, 0, none⟩), .string key] (TO b ⟨l, fr, some r, m⟩ hl hf hs) (fun v l' => v = .tuple #[.int .i64 (getN d key).1, .bool (getN d key).2] ∧ l' = TO b ⟨l, fr, some r, m⟩ hl hf hs) := by
 refine spec_of Tryz.func126 rfl Tryz.ntmps126 Tryz.results126 _ (by simp) fun ι F => ?_
 obtain ⟨h, hh⟩ := getSome hlen hjd
 have hlb := lb_le d.keys key
 have hfl : fnd d.keys key = true → lb d.keys key < d.keys.length := fun e => by
  simp only [fnd] at e
  split at e
  ·rename_i hx; exact getLt hx
  ·cases e
 refine vc_seq ?_
 refine vc_region ?_
 refine vp ?_
 refine vp ?_
 refine vc_nil ?_
 refine vc_then ?_
 refine vc_seq ?_
 refine vc_region ?_
 refine vp ?_
 refine vp ?_
 refine vc_callv ca_157 (us := []) (vs := []) rfl [_, _] rfl [0, 0, 0, 0] rfl (find_some hlen hR key hdsc hjd) rfl ?_
 rintro _ _ ⟨rfl, rfl⟩
 iterate 7 refine vp ?_
 refine vc_nil ?_
 refine vc_then ?_
 refine vc_seq ?_
 refine vc_seq ?_
 refine vc_region ?_
 refine vp ?_
 refine vp ?_
 refine vc_nil ?_
 refine vc_then ?_
 first | refine vc_condP rfl (fun c17 => ?_) (fun c17 => ?_) | refine vc_condN rfl (fun c17 => ?_) (fun c17 => ?_) | refine vc_cond rfl (fun c17 => ?_) (fun c17 => ?_)
 ·skip
  have hf : fnd d.keys key = false := by simpa using c17
  refine vc_seq ?_
  refine vc_region ?_
  refine vp ?_
  refine vp ?_
  refine vc_nil ?_
  refine vc_then ?_
  refine vc_ret ?_
  refine vc_thenRet ?_
  exact vc_end2 Tryz.results126 rfl rfl _ (ent_pick [0, 0, 0, 0] rfl) ⟨by simp [getN, hf], rfl⟩
 ·skip
  have hf : fnd d.keys key = true := by simpa using c17
  have hlt := hfl hf
  refine vc_skip ?_
  refine vc_then ?_
  refine vc_seq ?_
  refine vc_region ?_
  refine vp ?_
  refine vp ?_
  refine vc_y (y_fieldE fl_231_1 1 rfl rfl) rfl ?_
  refine vc_y (y_load1 1 rfl one_72 rfl (Rd.vis1 (Sl.vis) hh rfl)) rfl ?_
  refine vp ?_
  refine vc_y (y_elem 3 rfl (Nodes.visN hh hjd) (lb d.keys key) rfl (by omega) sl_72 rfl rfl) rfl ?_
  refine vc_y (y_load1 3 rfl one_3 rfl (Rd.vis1 (Nodes.visN hh hjd) (List.getElem?_eq_getElem (by first | assumption | omega)) rfl)) rfl ?_
  refine vp ?_
  refine vp ?_
  refine vc_nil ?_
  refine vc_then ?_
  refine vc_ret ?_
  exact vc_end2 Tryz.results126 rfl rfl _ (ent_pick [0, 0, 0, 0] rfl) ⟨by simp [getN, hf, List.getElem?_eq_getElem (show lb d.keys key < d.nums.length by omega)], rfl⟩
theorem get_none {b : Nat} {l : List Nd} {fr : List Nat} {m : Int} {hl hf : SH} {hs : List Nd3} (key : ByteArray) :
  Does Tryz.prog 126 [.pointer (some ⟨b, 0, none⟩), .string key] (TO b ⟨l, fr, none, m⟩ hl hf hs) (fun v l' => v = .tuple #[.int .i64 0, .bool false] ∧ l' = TO b ⟨l, fr, none, m⟩ hl hf hs) := by
 refine spec_of Tryz.func126 rfl Tryz.ntmps126 Tryz.results126 _ (by simp) fun ι F => ?_
 refine vc_seq ?_
 refine vc_region ?_
 refine vp ?_
 refine vp ?_
 refine vc_nil ?_
 refine vc_then ?_
 refine vc_seq ?_
 refine vc_region ?_
 refine vp ?_
 refine vp ?_
 refine vc_callv ca_157 (us := []) (vs := []) rfl [_, _] rfl [0, 0, 0, 0] rfl (find_none key) rfl ?_
 rintro _ _ ⟨rfl, rfl⟩
 iterate 7 refine vp ?_
 refine vc_nil ?_
 refine vc_then ?_
 refine vc_seq ?_
 refine vc_seq ?_
 refine vc_region ?_
 refine vp ?_
 refine vp ?_
 refine vc_nil ?_
 refine vc_then ?_
 refine vc_condT rfl ?_
 refine vc_seq ?_
 refine vc_region ?_
 refine vp ?_
 refine vp ?_
 refine vc_nil ?_
 refine vc_then ?_
 refine vc_ret ?_
 refine vc_thenRet ?_
 exact vc_end2 Tryz.results126 rfl rfl _ (ent_pick [0, 0, 0, 0] rfl) ⟨rfl, rfl⟩
theorem some_spec {b : Nat} {l : List Nd} {fr : List Nat} {m : Int} {hl hf : SH} {hs : List Nd3} {r : Option Nat} :
  Does Tryz.prog 132 [.pointer (some ⟨b, 0, none⟩)] (TO b ⟨l, fr, r, m⟩ hl hf hs) (fun v l' => v = .bool r.isSome ∧ l' = TO b ⟨l, fr, r, m⟩ hl hf hs) := by
 refine spec_of Tryz.func132 rfl Tryz.ntmps132 Tryz.results132 _ (by simp) fun ι F => ?_
 refine vc_seq ?_
 refine vc_region ?_
 refine vp ?_
 refine vc_nil ?_
 refine vc_then ?_
 refine vc_seq ?_
 refine vc_region ?_
 refine vp ?_
 refine vc_y (y_neNil ep_129 rfl rfl) rfl ?_
 refine vp ?_
 refine vc_guardT 5 rfl rfl ?_
 refine vp ?_
 refine vc_guardT 5 rfl rfl ?_
 refine vp ?_
 refine vc_guardT 5 rfl rfl ?_
 refine vc_y (y_fieldP fl_204_2 2 rfl rfl) rfl ?_
 refine vc_guardT 5 rfl rfl ?_
 refine vc_y (y_load1 0 rfl one_3 rfl (Pts.vis rfl)) rfl ?_
 refine vc_guardT 5 rfl rfl ?_
 iterate 3 refine vp ?_
 refine vc_nil ?_
 refine vc_then ?_
 refine vc_ret ?_
 exact vc_end1 Tryz.results132 rfl _ (ent_pick [0, 0, 0, 0] rfl) ⟨by cases r <;> simp [rootV] <;> omega, rfl⟩
theorem len_spec {b : Nat} {l : List Nd} {fr : List Nat} {m : Int} {hl hf : SH} {hs : List Nd3} {r : Option Nat} :
  Does Tryz.prog 125 [.pointer (some ⟨b, 0, none⟩)] (TO b ⟨l, fr, r, m⟩ hl hf hs) (fun v l' => v = .int .i64 m ∧ l' = TO b ⟨l, fr, r, m⟩ hl hf hs) := by
 refine spec_of Tryz.func125 rfl Tryz.ntmps125 Tryz.results125 _ (by simp) fun ι F => ?_
 refine vc_seq ?_
 refine vc_region ?_
 refine vp ?_
 refine vc_nil ?_
 refine vc_then ?_
 refine vc_seq ?_
 refine vc_seq ?_
 refine vc_region ?_
 refine vp ?_
 refine vc_y (y_eqNil ep_129 rfl rfl) rfl ?_
 refine vc_nil ?_
 refine vc_then ?_
 refine vc_condF rfl ?_
 refine vc_skip ?_
 refine vc_then ?_
 refine vc_seq ?_
 refine vc_region ?_
 refine vp ?_
 refine vp ?_
 refine vc_y (y_fieldP fl_204_3 3 rfl rfl) rfl ?_
 refine vc_y (y_load1 0 rfl one_3 rfl (Pts.vis rfl)) rfl ?_
 refine vp ?_
 refine vc_nil ?_
 refine vc_then ?_
 refine vc_ret ?_
 exact vc_end1 Tryz.results125 rfl _ (ent_pick [0, 0, 0, 0] rfl) ⟨rfl, rfl⟩
theorem edge_spec {b : Nat} {l : List Nd} {fr : List Nat} {r : Nat} {m : Int} {hl hf : SH} {hs : List Nd3} (hlen : hs.length = l.length) (hR : RiseAll l) {i f : Nat} {q : ByteArray × Int} (he : edg f l i = some q) :
  Does Tryz.prog 170 [.pointer (some ⟨b, 0, none⟩), .int .i64 (i : Int), .bool false] (TO b ⟨l, fr, some r, m⟩ hl hf hs) (fun v l' => v = .tuple #[.string q.1, .int .i64 q.2, .bool true] ∧ l' = TO b ⟨l, fr, some r, m⟩ hl hf hs) := by
 refine spec_of Tryz.func170 rfl Tryz.ntmps170 Tryz.results170 _ (by simp) fun ι F => ?_
 refine vc_seq ?_
 refine vc_region ?_
 iterate 3 refine vp ?_
 refine vc_nil ?_
 refine vc_then ?_
 refine vc_seq ?_
 refine vc_region ?_
 refine vp ?_
 refine vp ?_
 refine vc_y (y_fieldP fl_204_0 0 rfl rfl) rfl ?_
 refine vc_y (y_load1 0 rfl one_202 rfl (Pts.vis rfl)) rfl ?_
 refine vp ?_
 refine vc_y (y_elem 1 rfl (Sl.vis) i rfl (by have := edg_lt he; omega) sl_202 rfl rfl) rfl ?_
 refine vp ?_
 refine vc_nil ?_
 refine vc_then ?_
 refine vc_seq ?_
 refine vc_block ?_
 refine vc_loop (α := Nat × Nat) (fun x => match x with | (j, f) => [(0, .pointer (some ⟨b, 0, none⟩)), (2, .bool false), (9, .pointer (some (eAd hl 3 j 0)))]) (fun x => match x with | (j, f) => TO b ⟨l, fr, some r, m⟩ hl hf hs) (fun x => match x with | (j, f) => f) (fun x => match x with | (j, f) => edg f l j = some q) (i, f) he ⟨rfl, rfl, rfl, trivial⟩ (ent_pick [0, 0, 0, 0] rfl) ?_
 rintro ⟨j, f⟩ hok
 show VC _ _ _ _ [(0, .pointer (some ⟨b, 0, none⟩)), (2, .bool false), (9, .pointer (some (eAd hl 3 j 0)))] (TO b ⟨l, fr, some r, m⟩ hl hf hs)
 obtain ⟨f, d1, rfl, hd, hcase⟩ := edg_some hok
 obtain ⟨h, hh⟩ := getSome hlen hd
 refine vc_see 3 rfl ((Nodes.visC hh hd).imp fun w r => r.len) (fun hcl => ?_)
 refine vc_seq ?_
 refine vc_seq ?_
 refine vc_region ?_
 refine vp ?_
 refine vc_callv ca_163 (us := []) (vs := []) rfl [_] rfl [1] rfl (leaf_spec (k := h.c) (Rd.vis1 Sl.vis hh rfl)) rfl ?_
 rintro _ _ ⟨rfl, rfl⟩
 refine vp ?_
 refine vc_nil ?_
 refine vc_then ?_
 first | refine vc_condP rfl (fun c20 => ?_) (fun c20 => ?_) | refine vc_condN rfl (fun c20 => ?_) (fun c20 => ?_) | refine vc_cond rfl (fun c20 => ?_) (fun c20 => ?_)
 ·skip
  rcases hcase with ⟨hk0, _⟩ | ⟨hk0, c, hc, hdc⟩
  ·exact absurd (by rw [hcl, hk0]; rfl) c20
  refine vc_skip ?_
  refine vc_then ?_
  refine vc_block ?_
  refine vc_seq ?_
  refine vc_region ?_
  refine vp ?_
  refine vc_nil ?_
  refine vc_then ?_
  refine vc_seq ?_
  refine vc_seq ?_
  refine vc_region ?_
  refine vp ?_
  refine vc_nil ?_
  refine vc_then ?_
  refine vc_condF rfl ?_
  refine vc_skip ?_
  refine vc_then ?_
  refine vc_draw (by kernel_rfl) _ none [0, 0, 0, 0] rfl ?_
  refine tpp 0 ?_
  refine tpp 1 ?_
  refine tp 2 rfl (by exact y_fieldP fl_204_0 0 rfl rfl) ?_
  refine tk 3 rfl (by exact y_load1 1 rfl one_202 rfl (Pts.vis rfl)) ?_
  refine tpp 4 ?_
  refine tpp 5 ?_
  refine tp 6 rfl (by exact y_fieldE fl_231_2 2 rfl rfl) ?_
  refine tk 7 rfl (by exact y_load1 0 rfl one_72 rfl (Rd.vis1 (Sl.vis) hh rfl)) ?_
  refine tpp 8 ?_
  refine tk 9 rfl (by exact y_elem 3 rfl (Nodes.visC hh hd) 0 rfl (getLt hc) sl_72 rfl rfl) ?_
  refine tk 10 rfl (by exact y_load1 3 rfl one_3 rfl (Rd.vis1 (Nodes.visC hh hd) hc rfl)) ?_
  refine tk 11 rfl (by exact y_elem 0 rfl (Sl.vis) c rfl (by have := edg_lt hdc; omega) sl_202 rfl rfl) ?_
  refine tpp 12 ?_
  refine va_done (by kernel_rfl) ?_
  refine vc_inNormal ?_
  refine vc_then ?_
  exact vc_again (x := (j, f + 1)) (c, f) hdc (by show f < f + 1; omega) ⟨rfl, rfl, rfl, trivial⟩ (ent_pick [1, 0, 0, 0] rfl)
 ·skip
  obtain ⟨hk0, hq1, hq2⟩ : d1.kids = [] ∧ d1.keys[0]? = some q.1 ∧ d1.nums[0]? = some q.2 := by
   rcases hcase with h0 | ⟨h0, _⟩
   ·exact h0
   ·exact absurd (List.eq_nil_of_length_eq_zero (by omega)) h0
  refine vc_exit ?_
  refine vc_thenExit ?_
  refine vc_thenExit ?_
  refine vc_inExit ?_
  refine vc_then ?_
  refine vc_seq ?_
  refine vc_region ?_
  refine vp ?_
  refine vc_nil ?_
  refine vc_then ?_
  refine vc_seq ?_
  refine vc_seq ?_
  refine vc_region ?_
  refine vp ?_
  refine vc_nil ?_
  refine vc_then ?_
  refine vc_condF rfl ?_
  refine vc_skip ?_
  refine vc_then ?_
  refine vc_seq ?_
  refine vc_draw (by kernel_rfl) _ none [0, 0, 0, 0] rfl ?_
  refine tpp 0 ?_
  refine tpp 1 ?_
  refine tp 2 rfl (by exact y_fieldE fl_231_0 0 rfl rfl) ?_
  refine tk 3 rfl (by exact y_load1 0 rfl one_136 rfl (Rd.vis1 (Sl.vis) hh rfl)) ?_
  refine tpp 4 ?_
  refine tk 5 rfl (by exact y_elem 3 rfl (Nodes.visK hh hd) 0 rfl (getLt hq1) sl_136 rfl rfl) ?_
  refine tk 6 rfl (by exact y_load1 3 rfl one_9 rfl (Rd.vis1 (Nodes.visK hh hd) hq1 rfl)) ?_
  refine tpp 7 ?_
  refine tpp 8 ?_
  refine tp 9 rfl (by exact y_fieldE fl_231_1 1 rfl rfl) ?_
  refine tk 10 rfl (by exact y_load1 0 rfl one_72 rfl (Rd.vis1 (Sl.vis) hh rfl)) ?_
  refine tpp 11 ?_
  refine tk 12 rfl (by exact y_elem 3 rfl (Nodes.visN hh hd) 0 rfl (getLt hq2) sl_72 rfl rfl) ?_
  refine tk 13 rfl (by exact y_load1 3 rfl one_3 rfl (Rd.vis1 (Nodes.visN hh hd) hq2 rfl)) ?_
  refine tpp 14 ?_
  refine tpp 15 ?_
  refine tpp 16 ?_
  refine va_done (by kernel_rfl) ?_
  refine vc_then ?_
  refine vc_ret ?_
  exact vc_end3 Tryz.results170 rfl rfl rfl _ (ent_pick [1, 0, 0, 0] rfl) ⟨rfl, rfl⟩
theorem first_step {b : Nat} {l : List Nd} {fr : List Nat} {r : Nat} {m : Int} {hl hf : SH} {hs : List Nd3} (hlen : hs.length = l.length) (hR : RiseAll l) (key : ByteArray) (above : Bool) {i f : Nat} {res : Option (ByteArray × Int)} (hf0 : fstN (f + 1) l i key above = some res)
  (ih : ∀ (c : Nat) (r' : Option (ByteArray × Int)), fstN f l c key above = some r' → Does Tryz.prog 133 [.pointer (some ⟨b, 0, none⟩), .int .i64 (c : Int), .string key, .bool above] (TO b ⟨l, fr, some r, m⟩ hl hf hs) (fun v l' => v = resV r' ∧ l' = TO b ⟨l, fr, some r, m⟩ hl hf hs)) :
  Does Tryz.prog 133 [.pointer (some ⟨b, 0, none⟩), .int .i64 (i : Int), .string key, .bool above] (TO b ⟨l, fr, some r, m⟩ hl hf hs) (fun v l' => v = resV res ∧ l' = TO b ⟨l, fr, some r, m⟩ hl hf hs) := by
 refine spec_of Tryz.func133 rfl Tryz.ntmps133 Tryz.results133 _ (by simp) fun ι F => ?_
 obtain ⟨d, hd, hcase⟩ := fstN_some hf0
 obtain ⟨h, hh⟩ := getSome hlen hd
 have hil := getLt hd
 have hlb := lb_le d.keys key
 have hb1 := (hR _ _ hd).2.1
 have hb2 := (hR _ _ hd).2.2
 refine vc_see 3 rfl ((Nodes.visC hh hd).imp fun w r => r.len) (fun hcl => ?_)
 refine vc_see 3 rfl ((Nodes.visK hh hd).imp fun w r => r.len) (fun hkl => ?_)
 refine vc_seq ?_
 refine vc_region ?_
 iterate 3 refine vp ?_
 refine vc_nil ?_
 refine vc_then ?_
 refine vc_seq ?_
 refine vc_region ?_
 refine vp ?_
 refine vp ?_
 refine vc_y (y_fieldP fl_204_0 0 rfl rfl) rfl ?_
 refine vc_y (y_load1 0 rfl one_202 rfl (Pts.vis rfl)) rfl ?_
 refine vp ?_
 refine vc_y (y_elem 1 rfl (Sl.vis) i rfl (by omega) sl_202 rfl rfl) rfl ?_
 refine vp ?_
 refine vc_nil ?_
 refine vc_then ?_
 refine vc_seq ?_
 refine vc_seq ?_
 refine vc_region ?_
 refine vp ?_
 refine vc_callv ca_163 (us := []) (vs := []) rfl [_] rfl [1] rfl (leaf_spec (k := h.c) (Rd.vis1 Sl.vis hh rfl)) rfl ?_
 rintro _ _ ⟨rfl, rfl⟩
 refine vc_nil ?_
 refine vc_then ?_
 first | refine vc_condP rfl (fun c25 => ?_) (fun c25 => ?_) | refine vc_condN rfl (fun c25 => ?_) (fun c25 => ?_) | refine vc_cond rfl (fun c25 => ?_) (fun c25 => ?_)
 ·skip
  obtain ⟨hk0, hcase⟩ : d.kids = [] ∧ ((d.keys.length ≤ fst1 above d key ∧ res = none) ∨ (∃ k n, d.keys[fst1 above d key]? = some k ∧ d.nums[fst1 above d key]? = some n ∧ res = some (k, n))) := by
   rcases hcase with h0 | ⟨h0, _⟩
   ·exact h0
   ·exact absurd (List.eq_nil_of_length_eq_zero (by omega)) h0
  refine vc_seq ?_
  refine vc_region ?_
  refine vp ?_
  refine vp ?_
  refine vc_y (y_fieldE fl_231_0 0 rfl rfl) rfl ?_
  refine vc_y (y_load1 0 rfl one_136 rfl (Rd.vis1 (Sl.vis) hh rfl)) rfl ?_
  refine vp ?_
  refine vc_callv ca_168 (us := []) (vs := []) rfl [_, _] rfl [3] rfl (bsS_spec (Nodes.visK hh hd) (hR _ _ hd).1 key (by omega)) rfl ?_
  rintro _ _ ⟨rfl, rfl⟩
  iterate 5 refine vp ?_
  refine vc_nil ?_
  refine vc_then ?_
  refine vc_seq ?_
  refine vc_cut (α := Unit) (fun x => match x with | () => [(0, .pointer (some ⟨b, 0, none⟩)), (2, .string key), (3, .bool above), (11, .pointer (some (eAd hl 3 i 0))), (12, .int .i64 (fst1 above d key : Int))]) (fun x => match x with | () => TO b ⟨l, fr, some r, m⟩ hl hf hs) (fun x => match x with | () => True) ?_ ?_
  ·skip
   refine vc_seq ?_
   refine vc_region ?_
   refine vp ?_
   refine vp ?_
   first | refine vc_splitP 36 rfl (fun c36 => ?_) (fun c36 => ?_) | refine vc_splitN 36 rfl (fun c36 => ?_) (fun c36 => ?_) | refine vc_split 36 rfl (fun c36 => ?_) (fun c36 => ?_)
   ·skip
    refine vc_guardT 36 rfl rfl ?_
    refine vp ?_
    refine vp ?_
    refine vc_nil ?_
    refine vc_then ?_
    first | refine vc_condP rfl (fun c38 => ?_) (fun c38 => ?_) | refine vc_condN rfl (fun c38 => ?_) (fun c38 => ?_) | refine vc_cond rfl (fun c38 => ?_) (fun c38 => ?_)
    ·skip
     have hK : fst1 above d key = lb d.keys key + 1 := by simp [fst1, c36, c38]
     refine vc_region ?_
     refine vp ?_
     first | refine vc_y (y_arith _ rfl (wrapNadd (by omega))) rfl ?_ | refine vc_y (y_arith _ rfl (wrap64 (by omega) (by omega))) rfl ?_ | refine vp ?_
     refine vp ?_
     refine vc_nil ?_
     refine vc_then ?_
     exact vc_met () trivial ⟨rfl, rfl, rfl, rfl, by rw [hK]; rfl, trivial⟩ (ent_pick [2, 1, 1, 0] rfl)
    ·skip
     have hK : fst1 above d key = lb d.keys key := by simp [fst1, c38]
     refine vc_skip ?_
     refine vc_then ?_
     exact vc_met () trivial ⟨rfl, rfl, rfl, rfl, by rw [hK]; rfl, trivial⟩ (ent_pick [2, 1, 1, 0] rfl)
   ·skip
    have hK : fst1 above d key = lb d.keys key := by simp [fst1, c36]
    refine vc_guardF 36 rfl rfl rfl rfl ?_
    refine vp ?_
    refine vc_nil ?_
    refine vc_then ?_
    refine vc_condF rfl ?_
    refine vc_skip ?_
    refine vc_then ?_
    exact vc_met () trivial ⟨rfl, rfl, rfl, rfl, by rw [hK]; rfl, trivial⟩ (ent_pick [2, 1, 1, 0] rfl)
  rintro ⟨⟩ _
  show VC _ _ _ _ [(0, .pointer (some ⟨b, 0, none⟩)), (2, .string key), (3, .bool above), (11, .pointer (some (eAd hl 3 i 0))), (12, .int .i64 (fst1 above d key : Int))] (TO b ⟨l, fr, some r, m⟩ hl hf hs)
  refine vc_seq ?_
  refine vc_seq ?_
  refine vc_region ?_
  iterate 3 refine vp ?_
  refine vc_y (y_fieldE fl_231_0 0 rfl rfl) rfl ?_
  refine vc_y (y_load1 1 rfl one_136 rfl (Rd.vis1 (Sl.vis) hh rfl)) rfl ?_
  refine vc_y (y_len Tryz.underlying136 rfl (by first | assumption | rfl)) rfl ?_
  refine vp ?_
  refine vc_nil ?_
  refine vc_then ?_
  first | refine vc_condP rfl (fun c47 => ?_) (fun c47 => ?_) | refine vc_condN rfl (fun c47 => ?_) (fun c47 => ?_) | refine vc_cond rfl (fun c47 => ?_) (fun c47 => ?_)
  ·skip
   obtain rfl : res = none := by
    rcases hcase with h0 | ⟨_, _, h0, _⟩
    ·exact h0.2
    ·have := getLt h0; omega
   refine vc_seq ?_
   refine vc_region ?_
   iterate 3 refine vp ?_
   refine vc_nil ?_
   refine vc_then ?_
   refine vc_ret ?_
   refine vc_thenRet ?_
   refine vc_thenRet ?_
   exact vc_end3 Tryz.results133 rfl rfl rfl _ (ent_pick [0, 0, 0, 0] rfl) ⟨rfl, rfl⟩
  ·skip
   obtain ⟨k1, n1, hq1, hq2, rfl⟩ := hcase.resolve_left (by omega)
   refine vc_skip ?_
   refine vc_then ?_
   refine vc_seq ?_
   refine vc_draw (by kernel_rfl) _ none [0, 0, 0, 0] rfl ?_
   refine tpp 0 ?_
   refine tpp 1 ?_
   refine tp 2 rfl (by exact y_fieldE fl_231_0 0 rfl rfl) ?_
   refine tk 3 rfl (by exact y_load1 1 rfl one_136 rfl (Rd.vis1 (Sl.vis) hh rfl)) ?_
   refine tpp 4 ?_
   refine tk 5 rfl (by exact y_elem 3 rfl (Nodes.visK hh hd) (fst1 above d key) rfl (getLt hq1) sl_136 rfl rfl) ?_
   refine tk 6 rfl (by exact y_load1 3 rfl one_9 rfl (Rd.vis1 (Nodes.visK hh hd) hq1 rfl)) ?_
   refine tpp 7 ?_
   refine tpp 8 ?_
   refine tp 9 rfl (by exact y_fieldE fl_231_1 1 rfl rfl) ?_
   refine tk 10 rfl (by exact y_load1 1 rfl one_72 rfl (Rd.vis1 (Sl.vis) hh rfl)) ?_
   refine tpp 11 ?_
   refine tk 12 rfl (by exact y_elem 3 rfl (Nodes.visN hh hd) (fst1 above d key) rfl (getLt hq2) sl_72 rfl rfl) ?_
   refine tk 13 rfl (by exact y_load1 3 rfl one_3 rfl (Rd.vis1 (Nodes.visN hh hd) hq2 rfl)) ?_
   refine tpp 14 ?_
   refine tpp 15 ?_
   refine tpp 16 ?_
   refine va_done (by kernel_rfl) ?_
   refine vc_then ?_
   refine vc_ret ?_
   refine vc_thenRet ?_
   exact vc_end3 Tryz.results133 rfl rfl rfl _ (ent_pick [0, 0, 0, 0] rfl) ⟨rfl, rfl⟩
 ·skip
  rcases hcase with ⟨hk0, _⟩ | ⟨hk0, c, r', hc, hr', hcase⟩
  ·exact absurd (by rw [hcl, hk0]; rfl) c25
  have hwl := getLt hc
  refine vc_skip ?_
  refine vc_then ?_
  refine vc_seq ?_
  refine vc_region ?_
  refine vp ?_
  refine vp ?_
  refine vc_callv ca_169 (us := []) (vs := []) rfl [_, _] rfl [0, 2] rfl ((way_spec (d := d) (k := h.k) (A := seps [Sl eNode hl hs, Nodes hs l]) (Vis.at 0 rfl (Rd.vis1 Sl.vis hh rfl)) (Vis.at 1 rfl (Nodes.visK hh hd)) (hR _ _ hd).1 hb1 key).many) rfl ?_
  rintro _ _ ⟨rfl, rfl⟩
  refine vp ?_
  refine vc_nil ?_
  refine vc_then ?_
  refine vc_seq ?_
  refine vc_seq ?_
  refine vc_region ?_
  iterate 3 refine vp ?_
  refine vc_y (y_fieldE fl_231_2 2 rfl rfl) rfl ?_
  refine vc_y (y_load1 0 rfl one_72 rfl (Rd.vis1 (Sl.vis) hh rfl)) rfl ?_
  refine vp ?_
  refine vc_y (y_elem 1 rfl (Nodes.visC hh hd) (wayN d key) rfl hwl sl_72 rfl rfl) rfl ?_
  refine vc_y (y_load1 1 rfl one_3 rfl (Rd.vis1 (Nodes.visC hh hd) hc rfl)) rfl ?_
  refine vp ?_
  refine vp ?_
  refine vc_callv ca_133 (us := []) (vs := []) rfl [_, _, _, _] rfl [2, 0, 1, 0] rfl (ih c r' hr') rfl ?_
  rintro _ _ ⟨rfl, rfl⟩
  iterate 7 refine vp ?_
  refine vc_nil ?_
  refine vc_then ?_
  refine vc_seq ?_
  refine vc_region ?_
  refine vp ?_
  refine vc_nil ?_
  refine vc_then ?_
  first | refine vc_condP rfl (fun c80 => ?_) (fun c80 => ?_) | refine vc_condN rfl (fun c80 => ?_) (fun c80 => ?_) | refine vc_cond rfl (fun c80 => ?_) (fun c80 => ?_)
  ·skip
   obtain ⟨q, rfl, rfl⟩ : ∃ q, r' = some q ∧ res = some q := by
    rcases hcase with h0 | ⟨rfl, _⟩
    ·exact h0
    ·simp [resB] at c80
   refine vc_seq ?_
   refine vc_region ?_
   iterate 5 refine vp ?_
   refine vc_nil ?_
   refine vc_then ?_
   refine vc_ret ?_
   refine vc_thenRet ?_
   exact vc_end3 Tryz.results133 rfl rfl rfl _ (ent_pick [0, 0, 0, 0] rfl) ⟨rfl, rfl⟩
  ·skip
   obtain ⟨rfl, hcase2⟩ : r' = none ∧ ((d.kids[wayN d key + 1]? = none ∧ res = none) ∨ ∃ c' q, d.kids[wayN d key + 1]? = some c' ∧ edg f l c' = some q ∧ res = some q) := by
    rcases hcase with ⟨q, rfl, _⟩ | h0
    ·simp [resB] at c80
    ·exact h0
   refine vc_skip ?_
   refine vc_then ?_
   refine vc_seq ?_
   refine vc_seq ?_
   refine vc_region ?_
   refine vp ?_
   first | refine vc_y (y_arith _ rfl (wrapNadd (by omega))) rfl ?_ | refine vc_y (y_arith _ rfl (wrap64 (by omega) (by omega))) rfl ?_ | refine vp ?_
   refine vp ?_
   refine vp ?_
   refine vc_y (y_fieldE fl_231_2 2 rfl rfl) rfl ?_
   refine vc_y (y_load1 1 rfl one_72 rfl (Rd.vis1 (Sl.vis) hh rfl)) rfl ?_
   refine vc_y (y_len Tryz.underlying72 rfl (by first | assumption | rfl)) rfl ?_
   refine vp ?_
   refine vc_nil ?_
   refine vc_then ?_
   first | refine vc_condP rfl (fun c90 => ?_) (fun c90 => ?_) | refine vc_condN rfl (fun c90 => ?_) (fun c90 => ?_) | refine vc_cond rfl (fun c90 => ?_) (fun c90 => ?_)
   ·skip
    rcases hcase2 with ⟨h0, _⟩ | ⟨c2, q, hc2, he2, rfl⟩
    ·have := List.getElem?_eq_none_iff.1 h0; omega
    refine vc_seq ?_
    refine vc_region ?_
    iterate 3 refine vp ?_
    refine vc_y (y_fieldE fl_231_2 2 rfl rfl) rfl ?_
    refine vc_y (y_load1 1 rfl one_72 rfl (Rd.vis1 (Sl.vis) hh rfl)) rfl ?_
    refine vp ?_
    first | refine vc_y (y_arith _ rfl (wrapNadd (by omega))) rfl ?_ | refine vc_y (y_arith _ rfl (wrap64 (by omega) (by omega))) rfl ?_ | refine vp ?_
    refine vc_y (y_elem 3 rfl (Nodes.visC hh hd) (wayN d key + 1) rfl (getLt hc2) sl_72 rfl rfl) rfl ?_
    refine vc_y (y_load1 3 rfl one_3 rfl (Rd.vis1 (Nodes.visC hh hd) hc2 rfl)) rfl ?_
    refine vc_callv ca_170 (us := []) (vs := []) rfl [_, _, _] rfl [0, 0, 0, 0] rfl (edge_spec hlen hR he2) rfl ?_
    rintro _ _ ⟨rfl, rfl⟩
    iterate 6 refine vp ?_
    refine vc_nil ?_
    refine vc_then ?_
    refine vc_ret ?_
    refine vc_thenRet ?_
    exact vc_end3 Tryz.results133 rfl rfl rfl _ (ent_pick [0, 0, 0, 0] rfl) ⟨rfl, rfl⟩
   ·skip
    obtain rfl : res = none := by
     rcases hcase2 with h0 | ⟨_, _, h0, _⟩
     ·exact h0.2
     ·have := getLt h0; omega
    refine vc_skip ?_
    refine vc_then ?_
    refine vc_seq ?_
    refine vc_region ?_
    iterate 3 refine vp ?_
    refine vc_nil ?_
    refine vc_then ?_
    refine vc_ret ?_
    exact vc_end3 Tryz.results133 rfl rfl rfl _ (ent_pick [0, 0, 0, 0] rfl) ⟨rfl, rfl⟩
theorem first_spec {b : Nat} {l : List Nd} {fr : List Nat} {r : Nat} {m : Int} {hl hf : SH} {hs : List Nd3} (hlen : hs.length = l.length) (hR : RiseAll l) (key : ByteArray) (above : Bool) : ∀ (f i : Nat) (res : Option (ByteArray × Int)), fstN f l i key above = some res →
  Does Tryz.prog 133 [.pointer (some ⟨b, 0, none⟩), .int .i64 (i : Int), .string key, .bool above] (TO b ⟨l, fr, some r, m⟩ hl hf hs) (fun v l' => v = resV res ∧ l' = TO b ⟨l, fr, some r, m⟩ hl hf hs)
 | 0, _, _, h => by simp [fstN] at h
 | f + 1, i, res, h => first_step hlen hR key above h (fun c r' h' => first_spec hlen hR key above f c r' h')
theorem seek_some {b : Nat} {l : List Nd} {fr : List Nat} {r : Nat} {m : Int} {hl hf : SH} {hs : List Nd3} (hlen : hs.length = l.length) (hR : RiseAll l) (key : ByteArray) {f : Nat} {res : Option (ByteArray × Int)} (hfs : fstN f l r key false = some res) :
  Does Tryz.prog 138 [.pointer (some ⟨b, 0, none⟩), .string key] (TO b ⟨l, fr, some r, m⟩ hl hf hs) (fun v l' => v = resV res ∧ l' = TO b ⟨l, fr, some r, m⟩ hl hf hs) := by
 refine spec_of Tryz.func138 rfl Tryz.ntmps138 Tryz.results138 _ (by simp) fun ι F => ?_
 refine vc_seq ?_
 refine vc_region ?_
 iterate 3 refine vp ?_
 refine vc_nil ?_
 refine vc_then ?_
 refine vc_seq ?_
 refine vc_seq ?_
 refine vc_region ?_
 refine vp ?_
 refine vc_callv ca_132 (us := []) (vs := []) rfl [_] rfl [0, 0, 0, 0] rfl (some_spec) rfl ?_
 rintro _ _ ⟨rfl, rfl⟩
 refine vp ?_
 refine vc_nil ?_
 refine vc_then ?_
 refine vc_condF rfl ?_
 refine vc_skip ?_
 refine vc_then ?_
 refine vc_seq ?_
 refine vc_region ?_
 iterate 3 refine vp ?_
 refine vc_y (y_fieldP fl_204_2 2 rfl rfl) rfl ?_
 refine vc_y (y_load1 0 rfl one_3 rfl (Pts.vis rfl)) rfl ?_
 refine vp ?_
 refine vc_callv ca_133 (us := []) (vs := []) rfl [_, _, _, _] rfl [0, 0, 0, 0] rfl (first_spec hlen hR key false f r res hfs) rfl ?_
 rintro _ _ ⟨rfl, rfl⟩
 iterate 6 refine vp ?_
 refine vc_nil ?_
 refine vc_then ?_
 refine vc_ret ?_
 exact vc_end3 Tryz.results138 rfl rfl rfl _ (ent_pick [0, 0, 0, 0] rfl) ⟨rfl, rfl⟩
theorem seek_none {b : Nat} {l : List Nd} {fr : List Nat} {m : Int} {hl hf : SH} {hs : List Nd3} (key : ByteArray) :
  Does Tryz.prog 138 [.pointer (some ⟨b, 0, none⟩), .string key] (TO b ⟨l, fr, none, m⟩ hl hf hs) (fun v l' => v = resV none ∧ l' = TO b ⟨l, fr, none, m⟩ hl hf hs) := by
 refine spec_of Tryz.func138 rfl Tryz.ntmps138 Tryz.results138 _ (by simp) fun ι F => ?_
 refine vc_seq ?_
 refine vc_region ?_
 iterate 3 refine vp ?_
 refine vc_nil ?_
 refine vc_then ?_
 refine vc_seq ?_
 refine vc_seq ?_
 refine vc_region ?_
 refine vp ?_
 refine vc_callv ca_132 (us := []) (vs := []) rfl [_] rfl [0, 0, 0, 0] rfl (some_spec) rfl ?_
 rintro _ _ ⟨rfl, rfl⟩
 refine vp ?_
 refine vc_nil ?_
 refine vc_then ?_
 refine vc_condT rfl ?_
 refine vc_seq ?_
 refine vc_region ?_
 iterate 3 refine vp ?_
 refine vc_nil ?_
 refine vc_then ?_
 refine vc_ret ?_
 refine vc_thenRet ?_
 exact vc_end3 Tryz.results138 rfl rfl rfl _ (ent_pick [0, 0, 0, 0] rfl) ⟨rfl, rfl⟩
theorem after_some {b : Nat} {l : List Nd} {fr : List Nat} {r : Nat} {m : Int} {hl hf : SH} {hs : List Nd3} (hlen : hs.length = l.length) (hR : RiseAll l) (key : ByteArray) {f : Nat} {res : Option (ByteArray × Int)} (hfs : fstN f l r key true = some res) :
  Does Tryz.prog 82 [.pointer (some ⟨b, 0, none⟩), .string key] (TO b ⟨l, fr, some r, m⟩ hl hf hs) (fun v l' => v = resV res ∧ l' = TO b ⟨l, fr, some r, m⟩ hl hf hs) := by
 refine spec_of Tryz.func82 rfl Tryz.ntmps82 Tryz.results82 _ (by simp) fun ι F => ?_
 refine vc_seq ?_
 refine vc_region ?_
 iterate 3 refine vp ?_
 refine vc_nil ?_
 refine vc_then ?_
 refine vc_seq ?_
 refine vc_seq ?_
 refine vc_region ?_
 refine vp ?_
 refine vc_callv ca_132 (us := []) (vs := []) rfl [_] rfl [0, 0, 0, 0] rfl (some_spec) rfl ?_
 rintro _ _ ⟨rfl, rfl⟩
 refine vp ?_
 refine vc_nil ?_
 refine vc_then ?_
 refine vc_condF rfl ?_
 refine vc_skip ?_
 refine vc_then ?_
 refine vc_seq ?_
 refine vc_region ?_
 iterate 3 refine vp ?_
 refine vc_y (y_fieldP fl_204_2 2 rfl rfl) rfl ?_
 refine vc_y (y_load1 0 rfl one_3 rfl (Pts.vis rfl)) rfl ?_
 refine vp ?_
 refine vc_callv ca_133 (us := []) (vs := []) rfl [_, _, _, _] rfl [0, 0, 0, 0] rfl (first_spec hlen hR key true f r res hfs) rfl ?_
 rintro _ _ ⟨rfl, rfl⟩
 iterate 6 refine vp ?_
 refine vc_nil ?_
 refine vc_then ?_
 refine vc_ret ?_
 exact vc_end3 Tryz.results82 rfl rfl rfl _ (ent_pick [0, 0, 0, 0] rfl) ⟨rfl, rfl⟩
theorem after_none {b : Nat} {l : List Nd} {fr : List Nat} {m : Int} {hl hf : SH} {hs : List Nd3} (key : ByteArray) :
  Does Tryz.prog 82 [.pointer (some ⟨b, 0, none⟩), .string key] (TO b ⟨l, fr, none, m⟩ hl hf hs) (fun v l' => v = resV none ∧ l' = TO b ⟨l, fr, none, m⟩ hl hf hs) := by
 refine spec_of Tryz.func82 rfl Tryz.ntmps82 Tryz.results82 _ (by simp) fun ι F => ?_
 refine vc_seq ?_
 refine vc_region ?_
 iterate 3 refine vp ?_
 refine vc_nil ?_
 refine vc_then ?_
 refine vc_seq ?_
 refine vc_seq ?_
 refine vc_region ?_
 refine vp ?_
 refine vc_callv ca_132 (us := []) (vs := []) rfl [_] rfl [0, 0, 0, 0] rfl (some_spec) rfl ?_
 rintro _ _ ⟨rfl, rfl⟩
 refine vp ?_
 refine vc_nil ?_
 refine vc_then ?_
 refine vc_condT rfl ?_
 refine vc_seq ?_
 refine vc_region ?_
 iterate 3 refine vp ?_
 refine vc_nil ?_
 refine vc_then ?_
 refine vc_ret ?_
 refine vc_thenRet ?_
 exact vc_end3 Tryz.results82 rfl rfl rfl _ (ent_pick [0, 0, 0, 0] rfl) ⟨rfl, rfl⟩
end Go.Proofs.YtcpbibdbahfgaaaGreat
