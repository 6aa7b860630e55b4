/-
  The walk of what takes a key away below a node.
-/
import Derived.Test.YtcpbibdbahfgaaaGreatTree8
set_option linter.unusedVariables false
set_option linter.unusedSimpArgs false
set_option autoImplicit false
set_option maxHeartbeats 4000000
namespace Go.Proofs.YtcpbibdbahfgaaaGreat
open Go.Eng
namespace FTree9
theorem fl_204_0 : Fld Tryz.prog 204 0 0 := ⟨_, _, 0, Tryz.underlying204, rfl, rfl, by kernel_rfl⟩
theorem one_202 : TyOne Tryz.prog 202 := ⟨⟨_, Tryz.underlying202, rfl⟩, by kernel_rfl⟩
theorem sl_202 : TySl Tryz.prog 202 231 3 := ⟨Tryz.underlying202, by kernel_rfl⟩
theorem ca_163 : Callable Tryz.prog 163 := ⟨_, _, Tryz.func163, rfl, rfl⟩
theorem fl_231_0 : Fld Tryz.prog 231 0 0 := ⟨_, _, 0, Tryz.underlying231, rfl, rfl, by kernel_rfl⟩
theorem one_136 : TyOne Tryz.prog 136 := ⟨⟨_, Tryz.underlying136, rfl⟩, by kernel_rfl⟩
theorem ca_168 : Callable Tryz.prog 168 := ⟨_, _, Tryz.func168, rfl, rfl⟩
theorem fl_231_1 : Fld Tryz.prog 231 1 1 := ⟨_, _, 0, Tryz.underlying231, rfl, rfl, by kernel_rfl⟩
theorem one_72 : TyOne Tryz.prog 72 := ⟨⟨_, Tryz.underlying72, rfl⟩, by kernel_rfl⟩
theorem ca_190 : Callable Tryz.prog 190 := ⟨_, _, Tryz.func190, rfl, rfl⟩
theorem ca_191 : Callable Tryz.prog 191 := ⟨_, _, Tryz.func191, rfl, rfl⟩
theorem sz_136 : (Tryz.prog.info? 136).map (·.size) = some 1 := by kernel_rfl
theorem sz_72 : (Tryz.prog.info? 72).map (·.size) = some 1 := by kernel_rfl
theorem ca_169 : Callable Tryz.prog 169 := ⟨_, _, Tryz.func169, rfl, rfl⟩
theorem fl_231_2 : Fld Tryz.prog 231 2 2 := ⟨_, _, 0, Tryz.underlying231, rfl, rfl, by kernel_rfl⟩
theorem sl_72 : TySl Tryz.prog 72 3 1 := ⟨Tryz.underlying72, by kernel_rfl⟩
theorem one_3 : TyOne Tryz.prog 3 := ⟨⟨_, Tryz.underlying3, rfl⟩, by kernel_rfl⟩
theorem ca_161 : Callable Tryz.prog 161 := ⟨_, _, Tryz.func161, rfl, rfl⟩
theorem ca_166 : Callable Tryz.prog 166 := ⟨_, _, Tryz.func166, rfl, rfl⟩
theorem ca_192 : Callable Tryz.prog 192 := ⟨_, _, Tryz.func192, rfl, rfl⟩
end FTree9
open FTree9
theorem mend_spec {b : Nat} {l l' : List Nd} {fr fr' : List Nat} {r : Option Nat} {m : Int} {hl hf : SH} {hs : List Nd3} (hlen : hs.length = l.length) {x w : Nat} (hM : MendR l fr x w l' fr') (hfr : fr.length ≤ 1000000) :
    Does Tryz.prog 192 [.pointer (some ⟨b, 0, none⟩), .pointer (some (eAd hl 3 x 0)), .int .i64 (w : Int)] (TO b ⟨l, fr, r, m⟩ hl hf hs) (fun v l2 => ∃ hf' hs', hs'.length = l'.length ∧ v = .tuple #[] ∧ l2 = TO b ⟨l', fr', r, m⟩ hl hf' hs') := by
  cases hM with
  | join d da db a b s hC hs hb => exact (mend_join hlen hC hb hs).imp fun v l2 ⟨hf', hs', h1, _, h2, h3⟩ => ⟨hf', hs', h1, h2, h3⟩
  | part d da db a b s t hC hs ht hl hn => exact (mend_part hlen hC hfr hs ht hl hn).imp fun v l2 ⟨hf', hs', h1, _, h2, h3⟩ => ⟨hf', hs', h1, h2, h3⟩
theorem DelR.inv {key : ByteArray} {f : Nat} {l l' : List Nd} {fr fr' : List Nat} {i : Nat} (h : DelR key f l fr i l' fr') : ∃ f' d, f = f' + 1 ∧ l[i]? = some d ∧ Good d ∧
    ((d.kids = [] ∧ d.nums.length = d.keys.length ∧ lb d.keys key < d.keys.length ∧ l' = l.set i (delL d key) ∧ fr' = fr) ∨
     (d.kids ≠ [] ∧ ∃ c dc l1 fr1, d.kids[wayN d key]? = some c ∧ DelR key f' l fr c l1 fr1 ∧ l1[i]? = some d ∧ l1[c]? = some dc ∧ Good dc ∧ fr1.length ≤ 1000000 ∧
      ((2 ≤ sizeN dc ∧ l' = l1 ∧ fr' = fr1) ∨ (sizeN dc < 2 ∧ MendR l1 fr1 i (max (wayN d key) 1) l' fr')))) := by
  cases h with
  | leaf d hd hg hk hn hf => exact ⟨_, d, rfl, hd, hg, .inl ⟨hk, hn, hf, rfl, rfl⟩⟩
  | deep d dc c hd hg hk hc hp hd1 hdc hgc hs hb => exact ⟨_, d, rfl, hd, hg, .inr ⟨hk, c, dc, _, _, hc, hp, hd1, hdc, hgc, hb, .inl ⟨hs, rfl, rfl⟩⟩⟩
  | mend d dc c hd hg hk hc hp hd1 hdc hgc hs hb hm => exact ⟨_, d, rfl, hd, hg, .inr ⟨hk, c, dc, _, _, hc, hp, hd1, hdc, hgc, hb, .inr ⟨hs, hm⟩⟩⟩
theorem del_step {b : Nat} {l l' : List Nd} {fr fr' : List Nat} {r : Option Nat} {m : Int} {hl hf : SH} {hs : List Nd3} (hlen : hs.length = l.length) (key : ByteArray) {f i : Nat} (hp : DelR key (f + 1) l fr i l' fr')
    (ih : ∀ (c : Nat) (l1 : List Nd) (fr1 : List Nat), DelR key f l fr c l1 fr1 → Does Tryz.prog 161 [.pointer (some ⟨b, 0, none⟩), .int .i64 (c : Int), .string key] (TO b ⟨l, fr, r, m⟩ hl hf hs) (fun v l2 => ∃ hf' hs', hs'.length = l1.length ∧ v = .tuple #[] ∧ l2 = TO b ⟨l1, fr1, r, m⟩ hl hf' hs')) :
    Does Tryz.prog 161 [.pointer (some ⟨b, 0, none⟩), .int .i64 (i : Int), .string key] (TO b ⟨l, fr, r, m⟩ hl hf hs) (fun v l2 => ∃ hf' hs', hs'.length = l'.length ∧ v = .tuple #[] ∧ l2 = TO b ⟨l', fr', r, m⟩ hl hf' hs') := by
  refine spec_of Tryz.func161 rfl Tryz.ntmps161 Tryz.results161 _ (by simp) fun ι F => ?_
  obtain ⟨f', d, hf', hd, hg, hcase⟩ := hp.inv
  obtain rfl := Nat.succ.inj hf'
  obtain ⟨h, hh⟩ := getSome hlen hd
  obtain ⟨hgr, hgk, hgn, hgc⟩ := hg
  refine vc_see 3 rfl ((Nodes.visK hh hd).imp fun w r => r.len) (fun ek0 => ?_)
  refine vc_see 3 rfl ((Nodes.visN hh hd).imp fun w r => r.len) (fun en0 => ?_)
  refine vc_see 3 rfl ((Nodes.visC hh hd).imp fun w r => r.len) (fun ec0 => ?_)
  have hlb := lb_le d.keys key
  have hwl := wayN_le d key
  refine vc_seq ?_
  refine vc_region ?_
  refine vp ?_
  refine vp ?_
  refine vc_y (y_fieldP fl_204_0 0 rfl rfl) rfl ?_
  refine vc_y (y_load1 0 rfl one_202 rfl (Pts.vis rfl)) rfl ?_
  refine vp ?_
  refine vc_y (y_elem 1 rfl (Sl.vis) i rfl (getLt hh) sl_202 rfl rfl) rfl ?_
  refine vp ?_
  refine vc_nil ?_
  refine vc_then ?_
  refine vc_seq ?_
  refine vc_seq ?_
  refine vc_region ?_
  refine vp ?_
  refine vc_callv ca_163 (us := []) (vs := []) rfl [_] rfl [1] rfl (leaf_specD (h := h) (d := d) (Rd.vis1 Sl.vis hh rfl) ec0) rfl ?_
  rintro _ _ ⟨rfl, rfl⟩
  refine vc_nil ?_
  refine vc_then ?_
  first | refine vc_condP rfl (fun c17 => ?_) (fun c17 => ?_) | refine vc_condN rfl (fun c17 => ?_) (fun c17 => ?_) | refine vc_cond rfl (fun c17 => ?_) (fun c17 => ?_)
  · skip
    have hk0 : d.kids = [] := by simpa using c17
    obtain ⟨hn, hfl, rfl, rfl⟩ : d.nums.length = d.keys.length ∧ lb d.keys key < d.keys.length ∧ l' = l.set i (delL d key) ∧ fr' = fr := by
      rcases hcase with h0 | h0
      · exact h0.2
      · exact absurd hk0 h0.1
    refine vc_seq ?_
    refine vc_region ?_
    refine vp ?_
    refine vp ?_
    refine vc_y (y_fieldE fl_231_0 0 rfl rfl) rfl ?_
    refine vc_y (y_load1 0 rfl one_136 rfl (Rd.vis1 (Sl.vis) hh rfl)) rfl ?_
    refine vp ?_
    refine vc_callv ca_168 (us := []) (vs := []) rfl [_, _] rfl [3] rfl (bsS_spec (Nodes.visK hh hd) hgr key (by omega)) rfl ?_
    rintro _ _ ⟨rfl, rfl⟩
    iterate 5 refine vp ?_
    refine vc_nil ?_
    refine vc_then ?_
    refine vc_seq ?_
    refine vc_openN 0 rfl hh hd ?_
    refine vc_draw (by kernel_rfl) _ (some 20) [4] rfl ?_
    refine tpp 0 ?_
    refine tpp 1 ?_
    refine tpp 2 ?_
    refine tpp 3 ?_
    refine tp 4 rfl (by exact y_fieldE fl_231_0 0 rfl rfl) ?_
    refine tk 5 rfl (by exact y_load1 0 rfl one_136 rfl (Rd.vis1 (Sl.vis) hh rfl)) ?_
    refine tpp 6 ?_
    refine tpp 7 ?_
    refine tp 8 rfl (by exact y_arith ((lb d.keys key + 1 : Nat) : Int) rfl (wrapNadd (by omega))) ?_
    refine tpp 10 ?_
    refine tpp 11 ?_
    refine tp 12 rfl (by exact y_fieldE fl_231_1 1 rfl rfl) ?_
    refine tk 13 rfl (by exact y_load1 0 rfl one_72 rfl (Rd.vis1 (Sl.vis) hh rfl)) ?_
    refine tpp 14 ?_
    refine tpp 15 ?_
    refine tp 16 rfl (by exact y_arith ((lb d.keys key + 1 : Nat) : Int) rfl (wrapNadd (by omega))) ?_
    refine va_ready [9] (by kernel_rfl) rfl ?_
    refine vo_cons rfl (fun hC0 => ?_) ?_
    · skip
      refine vc_callv ca_190 (us := []) (vs := []) rfl [_, _, _] rfl [0] rfl (delS_spec (i := lb d.keys key) (j := lb d.keys key + 1) (by omega) (by omega) (by omega)) rfl ?_
      rintro _ _ ⟨h36, rfl, rfl⟩
      refine vc_nil ?_
      refine vc_then ?_
      refine va_kept hC0 [4] rfl ?_
      clear hC0
      refine va_ready [17] (by kernel_rfl) rfl ?_
      refine vo_cons rfl (fun hC0 => ?_) ?_
      · skip
        refine vc_callv ca_191 (us := []) (vs := []) rfl [_, _, _] rfl [1] rfl (delI_spec (i := lb d.keys key) (j := lb d.keys key + 1) (by omega) (by omega) (by omega)) rfl ?_
        rintro _ _ ⟨h44, rfl, rfl⟩
        refine vc_nil ?_
        refine vc_then ?_
        refine va_kept hC0 [4] rfl ?_
        clear hC0
        refine tpp 18 ?_
        refine tp 19 rfl (by exact y_fieldE fl_231_0 0 rfl rfl) ?_
        refine va_ready [20] (by kernel_rfl) rfl ?_
        refine vo_cons rfl (fun hC0 => ?_) ?_
        · skip
          refine vc_storeE 4 rfl [_] ⟨h36, h.n, h.c⟩ rfl rfl rfl sz_136 rfl hh (Nat.le_of_ble_eq_true rfl) rfl ?_
          refine vc_nil ?_
          refine vc_then ?_
          refine va_gone hC0 (by kernel_rfl) ?_
          clear hC0
          refine va_ready [21] (by kernel_rfl) rfl ?_
          refine vo_cons rfl (fun hC0 => ?_) ?_
          · skip
            refine vp ?_
            refine vc_nil ?_
            refine vc_then ?_
            refine va_gone hC0 (by kernel_rfl) ?_
            clear hC0
            refine va_ready [22] (by kernel_rfl) rfl ?_
            refine vo_cons rfl (fun hC0 => ?_) ?_
            · skip
              refine vc_y (y_fieldE fl_231_1 1 rfl rfl) rfl ?_
              refine vc_nil ?_
              refine vc_then ?_
              refine va_gone hC0 (by kernel_rfl) ?_
              clear hC0
              refine va_ready [23] (by kernel_rfl) rfl ?_
              refine vo_cons rfl (fun hC0 => ?_) ?_
              · skip
                refine vc_storeE 4 rfl [_] ⟨h36, h44, h.c⟩ rfl rfl rfl sz_72 rfl (List.getElem?_set_self (getLt hh)) (Nat.le_of_ble_eq_true rfl) rfl ?_
                refine vc_nil ?_
                refine vc_then ?_
                refine va_gone hC0 (by kernel_rfl) ?_
                clear hC0
                refine va_done (by kernel_rfl) ?_
                refine vc_then ?_
                refine vc_ret ?_
                refine vc_thenRet ?_
                exact vc_end0 Tryz.results161  _ (ent_at [5, 4, 4, 1, 0, 0, 0] rfl (ent_cons (ent_cons (ent_cons (ent_closeN ⟨h36, h44, h.c⟩ (delL d key) (List.getElem?_set_self (by rw [List.length_set]; exact getLt hh)) (List.getElem?_set_self (getLt hd)) List.length_set (fun j hj => by rw [List.getElem?_set_ne (Ne.symm hj), List.getElem?_set_ne (Ne.symm hj)]) (fun j hj => by rw [List.getElem?_set_ne (Ne.symm hj)])))))) ⟨hf, _, by simp [hlen], rfl, rfl⟩
              exact vo_nil
            exact vo_nil
          exact vo_nil
        exact vo_nil
      exact vo_nil
    exact vo_nil
  · skip
    have hk0 : d.kids ≠ [] := by simpa using c17
    obtain ⟨c, dc, l1, fr1, hc, hpc, hd1, hdc, hgc1, hfb, hcase⟩ := (hcase.resolve_left (fun h0 => hk0 h0.1)).2
    refine vc_skip ?_
    refine vc_then ?_
    refine vc_seq ?_
    refine vc_region ?_
    refine vp ?_
    refine vp ?_
    refine vc_callv ca_169 (us := []) (vs := []) rfl [_, _] rfl [0, 2] rfl ((way_spec (d := d) (k := h.k) (A := seps [Sl eNode hl hs, Nodes hs l]) (Vis.at 0 rfl (Rd.vis1 Sl.vis hh rfl)) (Vis.at 1 rfl (Nodes.visK hh hd)) hgr (by omega) key).many) rfl ?_
    rintro _ _ ⟨rfl, rfl⟩
    refine vp ?_
    refine vc_nil ?_
    refine vc_then ?_
    refine vc_seq ?_
    refine vc_region ?_
    iterate 3 refine vp ?_
    refine vc_y (y_fieldE fl_231_2 2 rfl rfl) rfl ?_
    refine vc_y (y_load1 0 rfl one_72 rfl (Rd.vis1 (Sl.vis) hh rfl)) rfl ?_
    refine vp ?_
    refine vc_y (y_elem 1 rfl (Nodes.visC hh hd) (wayN d key) rfl (getLt hc) sl_72 rfl rfl) rfl ?_
    refine vc_y (y_load1 1 rfl one_3 rfl (Rd.vis1 (Nodes.visC hh hd) hc rfl)) rfl ?_
    refine vp ?_
    refine vc_callv ca_161 (us := []) (vs := []) rfl [_, _, _] rfl [2, 0, 1, 0] rfl (ih c l1 fr1 hpc) rfl ?_
    rintro _ _ ⟨hf1, hs1, ln1, rfl, rfl⟩
    obtain ⟨hc1, hhc1⟩ := getSome ln1 hdc
    obtain ⟨h1, hh1⟩ := getSome ln1 hd1
    refine vc_see 3 rfl ((Nodes.visK hhc1 hdc).imp fun w r => r.len) (fun ek1 => ?_)
    refine vc_see 3 rfl ((Nodes.visN hhc1 hdc).imp fun w r => r.len) (fun en1 => ?_)
    refine vc_see 3 rfl ((Nodes.visC hhc1 hdc).imp fun w r => r.len) (fun ec1 => ?_)
    refine vc_nil ?_
    refine vc_then ?_
    refine vc_seq ?_
    refine vc_draw (by kernel_rfl) _ none [0, 0, 0, 0] rfl ?_
    refine tpp 0 ?_
    refine tpp 1 ?_
    refine tp 2 rfl (by exact y_fieldP fl_204_0 0 rfl rfl) ?_
    refine tk 3 rfl (by exact y_load1 0 rfl one_202 rfl (Pts.vis rfl)) ?_
    refine tpp 4 ?_
    refine tpp 5 ?_
    refine tp 6 rfl (by exact y_fieldE fl_231_2 2 rfl rfl) ?_
    refine tk 7 rfl (by exact y_load1 1 rfl one_72 rfl (Rd.vis1 (Sl.vis) hh1 rfl)) ?_
    refine tpp 8 ?_
    refine tk 9 rfl (by exact y_elem 3 rfl (Nodes.visC hh1 hd1) (wayN d key) rfl (getLt hc) sl_72 rfl rfl) ?_
    refine tk 10 rfl (by exact y_load1 3 rfl one_3 rfl (Rd.vis1 (Nodes.visC hh1 hd1) hc rfl)) ?_
    refine tk 11 rfl (by exact y_elem 1 rfl (Sl.vis) c rfl (getLt hhc1) sl_202 rfl rfl) ?_
    refine va_ready [12] (by kernel_rfl) rfl ?_
    refine vo_cons rfl (fun hC0 => ?_) ?_
    · skip
      refine vc_callv ca_166 (us := []) (vs := []) rfl [_] rfl [1] rfl (size_specD (h := hc1) (d := dc) (Rd.vis1 Sl.vis hhc1 rfl) (Rd.vis1 Sl.vis hhc1 rfl) ek1 ec1) rfl ?_
      rintro _ _ ⟨rfl, rfl⟩
      refine vc_nil ?_
      refine vc_then ?_
      refine va_kept hC0 [1, 0, 0, 0] rfl ?_
      clear hC0
      refine tpp 13 ?_
      refine va_done (by kernel_rfl) ?_
      refine vc_then ?_
      first | refine vc_condP rfl (fun c75 => ?_) (fun c75 => ?_) | refine vc_condN rfl (fun c75 => ?_) (fun c75 => ?_) | refine vc_cond rfl (fun c75 => ?_) (fun c75 => ?_)
      · skip
        have hM := (hcase.resolve_left (fun h0 => by omega)).2
        refine vc_region ?_
        iterate 3 refine vp ?_
        refine vc_y (y_max2 ((max (wayN d key) 1 : Nat) : Int) rfl rfl (by split <;> omega)) rfl ?_
        refine vc_callv ca_192 (us := []) (vs := []) rfl [_, _, _] rfl [1, 0, 0, 0] rfl (mend_spec ln1 hM hfb) rfl ?_
        rintro _ _ ⟨hf2, hs2, ln2, rfl, rfl⟩
        refine vc_nil ?_
        exact vc_end0n Tryz.results161 _ (ent_pick [0, 0, 0, 0] rfl) ⟨hf2, hs2, ln2, rfl, rfl⟩
      · skip
        obtain ⟨_, rfl, rfl⟩ := hcase.resolve_right (fun h0 => by omega)
        refine vc_skip ?_
        exact vc_end0n Tryz.results161 _ (ent_pick [1, 0, 0, 0] rfl) ⟨hf1, hs1, ln1, rfl, rfl⟩
    exact vo_nil
theorem del_spec {b : Nat} {l : List Nd} {fr : List Nat} {r : Option Nat} {m : Int} {hl hf : SH} {hs : List Nd3} (hlen : hs.length = l.length) (key : ByteArray) : ∀ (f i : Nat) (l' : List Nd) (fr' : List Nat), DelR key f l fr i l' fr' → Does Tryz.prog 161 [.pointer (some ⟨b, 0, none⟩), .int .i64 (i : Int), .string key] (TO b ⟨l, fr, r, m⟩ hl hf hs) (fun v l2 => ∃ hf' hs', hs'.length = l'.length ∧ v = .tuple #[] ∧ l2 = TO b ⟨l', fr', r, m⟩ hl hf' hs')
  | 0, _, _, _, h => by obtain ⟨_, _, h0, _⟩ := h.inv; omega
  | f + 1, i, l', fr', h => del_step hlen key h (fun c l1 fr1 h1 => del_spec hlen key f c l1 fr1 h1)
end Go.Proofs.YtcpbibdbahfgaaaGreat
