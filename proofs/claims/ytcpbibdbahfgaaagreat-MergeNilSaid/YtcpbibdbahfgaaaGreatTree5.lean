/-
  The walk of what puts a key below a node.
-/
import Derived.Test.YtcpbibdbahfgaaaGreatTree4
set_option linter.unusedVariables false
set_option linter.unusedSimpArgs false
set_option autoImplicit false
namespace Go.Proofs.YtcpbibdbahfgaaaGreat
open Go.Eng
namespace FTree5
theorem fl_204_0 : Fld Tryz.prog 204 0 0 := ⟨_, _, 0, Tryz.underlying204, rfl, rfl, by kernel_rfl⟩
theorem one_202 : TyOne Tryz.prog 202 := ⟨⟨_, Tryz.underlying202, rfl⟩, by kernel_rfl⟩
theorem sl_202 : TySl Tryz.prog 202 231 3 := ⟨Tryz.underlying202, by kernel_rfl⟩
theorem ca_163 : Callable Tryz.prog 163 := ⟨_, _, Tryz.func163, rfl, rfl⟩
theorem fl_231_0 : Fld Tryz.prog 231 0 0 := ⟨_, _, 0, Tryz.underlying231, rfl, rfl, by kernel_rfl⟩
theorem one_136 : TyOne Tryz.prog 136 := ⟨⟨_, Tryz.underlying136, rfl⟩, by kernel_rfl⟩
theorem ca_168 : Callable Tryz.prog 168 := ⟨_, _, Tryz.func168, rfl, rfl⟩
theorem fl_231_1 : Fld Tryz.prog 231 1 1 := ⟨_, _, 0, Tryz.underlying231, rfl, rfl, by kernel_rfl⟩
theorem one_72 : TyOne Tryz.prog 72 := ⟨⟨_, Tryz.underlying72, rfl⟩, by kernel_rfl⟩
theorem sz_9 : (Tryz.prog.info? 9).map (·.size) = some 1 := by kernel_rfl
theorem ze_9 : (Tryz.prog.info? 9).map (·.zero) = some (some (.string ⟨#[]⟩)) := by kernel_rfl
theorem bs_136_1 (v0 : Value) (h0 : v0.cells = #[v0]) (w : World) : (Instr.buildSlice 136 1 #[(0, v0)]).run Tryz.prog w = .ok (.slice (some ⟨w.heap.size, 0, none⟩) 1 1) { w with heap := w.heap.push (.cells #[v0] 9 (0, 0)) } :=
  Go.Eng.run_buildSlice Tryz.underlying136 sz_9 ze_9 (by decide) (by rw [show Array.range (1 * 1) = #[0] from by decide]; simp [Instr.fill, cells_agg, h0]) w
theorem ca_193 : Callable Tryz.prog 193 := ⟨_, _, Tryz.func193, rfl, rfl⟩
theorem sz_3 : (Tryz.prog.info? 3).map (·.size) = some 1 := by kernel_rfl
theorem ze_3 : (Tryz.prog.info? 3).map (·.zero) = some (some (.int .i64 0)) := by kernel_rfl
theorem bs_72_1 (v0 : Value) (h0 : v0.cells = #[v0]) (w : World) : (Instr.buildSlice 72 1 #[(0, v0)]).run Tryz.prog w = .ok (.slice (some ⟨w.heap.size, 0, none⟩) 1 1) { w with heap := w.heap.push (.cells #[v0] 3 (0, 0)) } :=
  Go.Eng.run_buildSlice Tryz.underlying72 sz_3 ze_3 (by decide) (by rw [show Array.range (1 * 1) = #[0] from by decide]; simp [Instr.fill, cells_agg, h0]) w
theorem ca_194 : Callable Tryz.prog 194 := ⟨_, _, Tryz.func194, rfl, rfl⟩
theorem sz_136 : (Tryz.prog.info? 136).map (·.size) = some 1 := by kernel_rfl
theorem sz_72 : (Tryz.prog.info? 72).map (·.size) = some 1 := by kernel_rfl
theorem ca_169 : Callable Tryz.prog 169 := ⟨_, _, Tryz.func169, rfl, rfl⟩
theorem fl_231_2 : Fld Tryz.prog 231 2 2 := ⟨_, _, 0, Tryz.underlying231, rfl, rfl, by kernel_rfl⟩
theorem sl_72 : TySl Tryz.prog 72 3 1 := ⟨Tryz.underlying72, by kernel_rfl⟩
theorem one_3 : TyOne Tryz.prog 3 := ⟨⟨_, Tryz.underlying3, rfl⟩, by kernel_rfl⟩
theorem ca_165 : Callable Tryz.prog 165 := ⟨_, _, Tryz.func165, rfl, rfl⟩
theorem ca_166 : Callable Tryz.prog 166 := ⟨_, _, Tryz.func166, rfl, rfl⟩
theorem ca_167 : Callable Tryz.prog 167 := ⟨_, _, Tryz.func167, rfl, rfl⟩
end FTree5
open FTree5
theorem PutR.inv {key : ByteArray} {n : Int} {f : Nat} {l l' : List Nd} {fr fr' : List Nat} {i : Nat} (h : PutR key n f l fr i l' fr') : ∃ f' d, f = f' + 1 ∧ l[i]? = some d ∧ Good d ∧
    ((d.kids = [] ∧ d.nums.length = d.keys.length ∧ l' = l.set i (insL d key n) ∧ fr' = fr) ∨
     (d.kids ≠ [] ∧ ∃ c dc l1 fr1, d.kids[wayN d key]? = some c ∧ PutR key n f' l fr c l1 fr1 ∧ l1[c]? = some dc ∧ Good dc ∧
      ((sizeN dc ≤ 4 ∧ l' = l1 ∧ fr' = fr1) ∨ (4 < sizeN dc ∧ ∃ k s l2 d2, SplitR l1 fr1 c k s l2 fr' ∧ l2[i]? = some d2 ∧ Good d2 ∧ wayN d key ≤ d2.keys.length ∧ wayN d key + 1 ≤ d2.kids.length ∧ l' = l2.set i (insK d2 (wayN d key) s k))))) := by
  cases h with
  | leaf d hd hg hk hn => exact ⟨_, d, rfl, hd, hg, .inl ⟨hk, hn, rfl, rfl⟩⟩
  | deep d dc c hd hg hk hc hp hdc hgc hs => exact ⟨_, d, rfl, hd, hg, .inr ⟨hk, c, dc, _, _, hc, hp, hdc, hgc, .inl ⟨hs, rfl, rfl⟩⟩⟩
  | split d dc d2 c k s hd hg hk hc hp hdc hgc hs hsp hd2 hg2 hw hw2 => exact ⟨_, d, rfl, hd, hg, .inr ⟨hk, c, dc, _, _, hc, hp, hdc, hgc, .inr ⟨hs, k, s, _, d2, hsp, hd2, hg2, hw, hw2, rfl⟩⟩⟩
theorem fnd_lt {xs : List ByteArray} {k : ByteArray} (h : fnd xs k = true) : lb xs k < xs.length := by
  simp only [fnd] at h
  split at h
  · rename_i hx; exact getLt hx
  · cases h
theorem wayN_le (d : Nd) (key : ByteArray) : wayN d key ≤ d.keys.length := by
  have hlb := lb_le d.keys key
  unfold wayN
  split
  · rename_i h; have := fnd_lt h; omega
  · exact hlb
theorem put_step {b : Nat} {l l' : List Nd} {fr fr' : List Nat} {r : Option Nat} {m : Int} {hl hf : SH} {hs : List Nd3} (hlen : hs.length = l.length) (key : ByteArray) (n : Int) {f i : Nat} (hp : PutR key n (f + 1) l fr i l' fr')
    (ih : ∀ (c : Nat) (l1 : List Nd) (fr1 : List Nat), PutR key n f l fr c l1 fr1 → Does Tryz.prog 165 [.pointer (some ⟨b, 0, none⟩), .int .i64 (c : Int), .string key, .int .i64 n] (TO b ⟨l, fr, r, m⟩ hl hf hs) (fun v l2 => ∃ hl' hf' hs', hs'.length = l1.length ∧ v = .tuple #[] ∧ l2 = TO b ⟨l1, fr1, r, m⟩ hl' hf' hs')) :
    Does Tryz.prog 165 [.pointer (some ⟨b, 0, none⟩), .int .i64 (i : Int), .string key, .int .i64 n] (TO b ⟨l, fr, r, m⟩ hl hf hs) (fun v l2 => ∃ hl' hf' hs', hs'.length = l'.length ∧ v = .tuple #[] ∧ l2 = TO b ⟨l', fr', r, m⟩ hl' hf' hs') := by
  refine spec_of Tryz.func165 rfl Tryz.ntmps165 Tryz.results165 _ (by simp) fun ι F => ?_
  obtain ⟨f', d, hf', hd, hg, hcase⟩ := hp.inv
  obtain rfl := Nat.succ.inj hf'
  obtain ⟨h, hh⟩ := getSome hlen hd
  obtain ⟨hgr, hgk, hgn, hgc⟩ := hg
  refine vc_see 3 rfl ((Nodes.visK hh hd).imp fun w r => r.len) (fun ek0 => ?_)
  refine vc_see 3 rfl ((Nodes.visN hh hd).imp fun w r => r.len) (fun en0 => ?_)
  refine vc_see 3 rfl ((Nodes.visC hh hd).imp fun w r => r.len) (fun ec0 => ?_)
  have hlb := lb_le d.keys key
  have hwl := wayN_le d key
  refine vc_seq ?_
  refine vc_region ?_
  refine vp ?_
  refine vp ?_
  refine vc_y (y_fieldP fl_204_0 0 rfl rfl) rfl ?_
  refine vc_y (y_load1 0 rfl one_202 rfl (Pts.vis rfl)) rfl ?_
  refine vp ?_
  refine vc_y (y_elem 1 rfl (Sl.vis) i rfl (getLt hh) sl_202 rfl rfl) rfl ?_
  refine vp ?_
  refine vc_nil ?_
  refine vc_then ?_
  refine vc_seq ?_
  refine vc_seq ?_
  refine vc_region ?_
  refine vp ?_
  refine vc_callv ca_163 (us := []) (vs := []) rfl [_] rfl [1] rfl (leaf_specD (h := h) (d := d) (Rd.vis1 Sl.vis hh rfl) ec0) rfl ?_
  rintro _ _ ⟨rfl, rfl⟩
  refine vc_nil ?_
  refine vc_then ?_
  first | refine vc_condP rfl (fun c22 => ?_) (fun c22 => ?_) | refine vc_condN rfl (fun c22 => ?_) (fun c22 => ?_) | refine vc_cond rfl (fun c22 => ?_) (fun c22 => ?_)
  · skip
    have hk0 : d.kids = [] := by simpa using c22
    obtain ⟨hn, rfl, rfl⟩ : d.nums.length = d.keys.length ∧ l' = l.set i (insL d key n) ∧ fr' = fr := by
      rcases hcase with h0 | h0
      · exact h0.2
      · exact absurd hk0 h0.1
    refine vc_seq ?_
    refine vc_region ?_
    refine vp ?_
    refine vp ?_
    refine vc_y (y_fieldE fl_231_0 0 rfl rfl) rfl ?_
    refine vc_y (y_load1 0 rfl one_136 rfl (Rd.vis1 (Sl.vis) hh rfl)) rfl ?_
    refine vp ?_
    refine vc_callv ca_168 (us := []) (vs := []) rfl [_, _] rfl [3] rfl (bsS_spec (Nodes.visK hh hd) hgr key (by omega)) rfl ?_
    rintro _ _ ⟨rfl, rfl⟩
    iterate 5 refine vp ?_
    refine vc_nil ?_
    refine vc_then ?_
    refine vc_seq ?_
    refine vc_openN 0 rfl hh hd ?_
    refine vc_draw (by kernel_rfl) _ (some 20) [4] rfl ?_
    refine tpp 0 ?_
    refine tpp 1 ?_
    refine tpp 2 ?_
    refine tpp 3 ?_
    refine tp 4 rfl (by exact y_fieldE fl_231_0 0 rfl rfl) ?_
    refine tk 5 rfl (by exact y_load1 0 rfl one_136 rfl (Rd.vis1 (Sl.vis) hh rfl)) ?_
    refine tpp 6 ?_
    refine tpp 7 ?_
    refine tpp 10 ?_
    refine tpp 11 ?_
    refine tp 12 rfl (by exact y_fieldE fl_231_1 1 rfl rfl) ?_
    refine tk 13 rfl (by exact y_load1 0 rfl one_72 rfl (Rd.vis1 (Sl.vis) hh rfl)) ?_
    refine tpp 14 ?_
    refine tpp 15 ?_
    refine va_ready [8, 16] (by kernel_rfl) rfl ?_
    refine vo_cons rfl (fun hC0 => ?_) ?_
    · skip
      refine vc_buildSlice (E := eStr) [(0, _)] [key] rfl rfl (bs_136_1 _ rfl) rfl (fun h40 => ?_)
      refine vc_nil ?_
      refine vc_then ?_
      refine va_kept hC0 [5] rfl ?_
      clear hC0
      refine va_ready [9, 16] (by kernel_rfl) rfl ?_
      refine vo_cons rfl (fun hC0 => ?_) ?_
      · skip
        refine vc_callv ca_193 (us := []) (vs := []) rfl [_, _, _] rfl [1, 0] rfl (insS_spec hlb (by omega)) rfl ?_
        rintro _ _ ⟨h41, rfl, rfl⟩
        refine vc_nil ?_
        refine vc_then ?_
        refine va_kept hC0 [4] rfl ?_
        clear hC0
        refine va_ready [16] (by kernel_rfl) rfl ?_
        refine vo_cons rfl (fun hC0 => ?_) ?_
        · skip
          refine vc_buildSlice (E := eInt) [(0, _)] [n] rfl rfl (bs_72_1 _ rfl) rfl (fun h48 => ?_)
          refine vc_nil ?_
          refine vc_then ?_
          refine va_kept hC0 [5] rfl ?_
          clear hC0
          refine va_ready [17] (by kernel_rfl) rfl ?_
          refine vo_cons rfl (fun hC0 => ?_) ?_
          · skip
            refine vc_callv ca_194 (us := []) (vs := []) rfl [_, _, _] rfl [2, 0] rfl (insI_spec (by omega) (by omega)) rfl ?_
            rintro _ _ ⟨h49, rfl, rfl⟩
            refine vc_nil ?_
            refine vc_then ?_
            refine va_kept hC0 [4] rfl ?_
            clear hC0
            refine tpp 18 ?_
            refine tp 19 rfl (by exact y_fieldE fl_231_0 0 rfl rfl) ?_
            refine va_ready [20] (by kernel_rfl) rfl ?_
            refine vo_cons rfl (fun hC0 => ?_) ?_
            · skip
              refine vc_storeE 4 rfl [_] ⟨h41, h.n, h.c⟩ rfl rfl rfl sz_136 rfl hh (Nat.le_of_ble_eq_true rfl) rfl ?_
              refine vc_nil ?_
              refine vc_then ?_
              refine va_gone hC0 (by kernel_rfl) ?_
              clear hC0
              refine va_ready [21] (by kernel_rfl) rfl ?_
              refine vo_cons rfl (fun hC0 => ?_) ?_
              · skip
                refine vp ?_
                refine vc_nil ?_
                refine vc_then ?_
                refine va_gone hC0 (by kernel_rfl) ?_
                clear hC0
                refine va_ready [22] (by kernel_rfl) rfl ?_
                refine vo_cons rfl (fun hC0 => ?_) ?_
                · skip
                  refine vc_y (y_fieldE fl_231_1 1 rfl rfl) rfl ?_
                  refine vc_nil ?_
                  refine vc_then ?_
                  refine va_gone hC0 (by kernel_rfl) ?_
                  clear hC0
                  refine va_ready [23] (by kernel_rfl) rfl ?_
                  refine vo_cons rfl (fun hC0 => ?_) ?_
                  · skip
                    refine vc_storeE 4 rfl [_] ⟨h41, h49, h.c⟩ rfl rfl rfl sz_72 rfl (List.getElem?_set_self (getLt hh)) (Nat.le_of_ble_eq_true rfl) rfl ?_
                    refine vc_nil ?_
                    refine vc_then ?_
                    refine va_gone hC0 (by kernel_rfl) ?_
                    clear hC0
                    refine va_done (by kernel_rfl) ?_
                    refine vc_then ?_
                    refine vc_ret ?_
                    refine vc_thenRet ?_
                    exact vc_end0 Tryz.results165  _ (ent_at [5, 4, 4, 1, 0, 0, 0] rfl (ent_cons (ent_cons (ent_cons (ent_closeN ⟨h41, h49, h.c⟩ (insL d key n) (List.getElem?_set_self (by rw [List.length_set]; exact getLt hh)) (List.getElem?_set_self (getLt hd)) List.length_set (fun j hj => by rw [List.getElem?_set_ne (Ne.symm hj), List.getElem?_set_ne (Ne.symm hj)]) (fun j hj => by rw [List.getElem?_set_ne (Ne.symm hj)])))))) ⟨hl, hf, _, by simp [hlen], rfl, rfl⟩
                  exact vo_nil
                exact vo_nil
              exact vo_nil
            exact vo_nil
          exact vo_nil
        exact vo_nil
      refine vo_cons rfl (fun hC0 => ?_) ?_
      · skip
        refine vc_buildSlice (E := eInt) [(0, _)] [n] rfl rfl (bs_72_1 _ rfl) rfl (fun h48 => ?_)
        refine vc_nil ?_
        refine vc_then ?_
        refine va_kept hC0 [6] rfl ?_
        clear hC0
        refine va_ready [9] (by kernel_rfl) rfl ?_
        refine vo_cons rfl (fun hC0 => ?_) ?_
        · skip
          refine vc_callv ca_193 (us := []) (vs := []) rfl [_, _, _] rfl [2, 1] rfl (insS_spec hlb (by omega)) rfl ?_
          rintro _ _ ⟨h41, rfl, rfl⟩
          refine vc_nil ?_
          refine vc_then ?_
          refine va_kept hC0 [5] rfl ?_
          clear hC0
          refine va_ready [17] (by kernel_rfl) rfl ?_
          refine vo_cons rfl (fun hC0 => ?_) ?_
          · skip
            refine vc_callv ca_194 (us := []) (vs := []) rfl [_, _, _] rfl [2, 1] rfl (insI_spec (by omega) (by omega)) rfl ?_
            rintro _ _ ⟨h49, rfl, rfl⟩
            refine vc_nil ?_
            refine vc_then ?_
            refine va_kept hC0 [4] rfl ?_
            clear hC0
            refine tpp 18 ?_
            refine tp 19 rfl (by exact y_fieldE fl_231_0 0 rfl rfl) ?_
            refine va_ready [20] (by kernel_rfl) rfl ?_
            refine vo_cons rfl (fun hC0 => ?_) ?_
            · skip
              refine vc_storeE 4 rfl [_] ⟨h41, h.n, h.c⟩ rfl rfl rfl sz_136 rfl hh (Nat.le_of_ble_eq_true rfl) rfl ?_
              refine vc_nil ?_
              refine vc_then ?_
              refine va_gone hC0 (by kernel_rfl) ?_
              clear hC0
              refine va_ready [21] (by kernel_rfl) rfl ?_
              refine vo_cons rfl (fun hC0 => ?_) ?_
              · skip
                refine vp ?_
                refine vc_nil ?_
                refine vc_then ?_
                refine va_gone hC0 (by kernel_rfl) ?_
                clear hC0
                refine va_ready [22] (by kernel_rfl) rfl ?_
                refine vo_cons rfl (fun hC0 => ?_) ?_
                · skip
                  refine vc_y (y_fieldE fl_231_1 1 rfl rfl) rfl ?_
                  refine vc_nil ?_
                  refine vc_then ?_
                  refine va_gone hC0 (by kernel_rfl) ?_
                  clear hC0
                  refine va_ready [23] (by kernel_rfl) rfl ?_
                  refine vo_cons rfl (fun hC0 => ?_) ?_
                  · skip
                    refine vc_storeE 4 rfl [_] ⟨h41, h49, h.c⟩ rfl rfl rfl sz_72 rfl (List.getElem?_set_self (getLt hh)) (Nat.le_of_ble_eq_true rfl) rfl ?_
                    refine vc_nil ?_
                    refine vc_then ?_
                    refine va_gone hC0 (by kernel_rfl) ?_
                    clear hC0
                    refine va_done (by kernel_rfl) ?_
                    refine vc_then ?_
                    refine vc_ret ?_
                    refine vc_thenRet ?_
                    exact vc_end0 Tryz.results165  _ (ent_at [5, 4, 4, 1, 0, 0, 0] rfl (ent_cons (ent_cons (ent_cons (ent_closeN ⟨h41, h49, h.c⟩ (insL d key n) (List.getElem?_set_self (by rw [List.length_set]; exact getLt hh)) (List.getElem?_set_self (getLt hd)) List.length_set (fun j hj => by rw [List.getElem?_set_ne (Ne.symm hj), List.getElem?_set_ne (Ne.symm hj)]) (fun j hj => by rw [List.getElem?_set_ne (Ne.symm hj)])))))) ⟨hl, hf, _, by simp [hlen], rfl, rfl⟩
                  exact vo_nil
                exact vo_nil
              exact vo_nil
            exact vo_nil
          exact vo_nil
        exact vo_nil
      exact vo_nil
    refine vo_cons rfl (fun hC0 => ?_) ?_
    · skip
      refine vc_buildSlice (E := eInt) [(0, _)] [n] rfl rfl (bs_72_1 _ rfl) rfl (fun h48 => ?_)
      refine vc_nil ?_
      refine vc_then ?_
      refine va_kept hC0 [5] rfl ?_
      clear hC0
      refine va_ready [8] (by kernel_rfl) rfl ?_
      refine vo_cons rfl (fun hC0 => ?_) ?_
      · skip
        refine vc_buildSlice (E := eStr) [(0, _)] [key] rfl rfl (bs_136_1 _ rfl) rfl (fun h40 => ?_)
        refine vc_nil ?_
        refine vc_then ?_
        refine va_kept hC0 [6] rfl ?_
        clear hC0
        refine va_ready [9] (by kernel_rfl) rfl ?_
        refine vo_cons rfl (fun hC0 => ?_) ?_
        · skip
          refine vc_callv ca_193 (us := []) (vs := []) rfl [_, _, _] rfl [2, 0] rfl (insS_spec hlb (by omega)) rfl ?_
          rintro _ _ ⟨h41, rfl, rfl⟩
          refine vc_nil ?_
          refine vc_then ?_
          refine va_kept hC0 [5] rfl ?_
          clear hC0
          refine va_ready [17] (by kernel_rfl) rfl ?_
          refine vo_cons rfl (fun hC0 => ?_) ?_
          · skip
            refine vc_callv ca_194 (us := []) (vs := []) rfl [_, _, _] rfl [2, 1] rfl (insI_spec (by omega) (by omega)) rfl ?_
            rintro _ _ ⟨h49, rfl, rfl⟩
            refine vc_nil ?_
            refine vc_then ?_
            refine va_kept hC0 [4] rfl ?_
            clear hC0
            refine tpp 18 ?_
            refine tp 19 rfl (by exact y_fieldE fl_231_0 0 rfl rfl) ?_
            refine va_ready [20] (by kernel_rfl) rfl ?_
            refine vo_cons rfl (fun hC0 => ?_) ?_
            · skip
              refine vc_storeE 4 rfl [_] ⟨h41, h.n, h.c⟩ rfl rfl rfl sz_136 rfl hh (Nat.le_of_ble_eq_true rfl) rfl ?_
              refine vc_nil ?_
              refine vc_then ?_
              refine va_gone hC0 (by kernel_rfl) ?_
              clear hC0
              refine va_ready [21] (by kernel_rfl) rfl ?_
              refine vo_cons rfl (fun hC0 => ?_) ?_
              · skip
                refine vp ?_
                refine vc_nil ?_
                refine vc_then ?_
                refine va_gone hC0 (by kernel_rfl) ?_
                clear hC0
                refine va_ready [22] (by kernel_rfl) rfl ?_
                refine vo_cons rfl (fun hC0 => ?_) ?_
                · skip
                  refine vc_y (y_fieldE fl_231_1 1 rfl rfl) rfl ?_
                  refine vc_nil ?_
                  refine vc_then ?_
                  refine va_gone hC0 (by kernel_rfl) ?_
                  clear hC0
                  refine va_ready [23] (by kernel_rfl) rfl ?_
                  refine vo_cons rfl (fun hC0 => ?_) ?_
                  · skip
                    refine vc_storeE 4 rfl [_] ⟨h41, h49, h.c⟩ rfl rfl rfl sz_72 rfl (List.getElem?_set_self (getLt hh)) (Nat.le_of_ble_eq_true rfl) rfl ?_
                    refine vc_nil ?_
                    refine vc_then ?_
                    refine va_gone hC0 (by kernel_rfl) ?_
                    clear hC0
                    refine va_done (by kernel_rfl) ?_
                    refine vc_then ?_
                    refine vc_ret ?_
                    refine vc_thenRet ?_
                    exact vc_end0 Tryz.results165  _ (ent_at [5, 4, 4, 1, 0, 0, 0] rfl (ent_cons (ent_cons (ent_cons (ent_closeN ⟨h41, h49, h.c⟩ (insL d key n) (List.getElem?_set_self (by rw [List.length_set]; exact getLt hh)) (List.getElem?_set_self (getLt hd)) List.length_set (fun j hj => by rw [List.getElem?_set_ne (Ne.symm hj), List.getElem?_set_ne (Ne.symm hj)]) (fun j hj => by rw [List.getElem?_set_ne (Ne.symm hj)])))))) ⟨hl, hf, _, by simp [hlen], rfl, rfl⟩
                  exact vo_nil
                exact vo_nil
              exact vo_nil
            exact vo_nil
          exact vo_nil
        exact vo_nil
      exact vo_nil
    exact vo_nil
  · skip
    have hk0 : d.kids ≠ [] := by simpa using c22
    obtain ⟨c, dc, l1, fr1, hc, hpc, hdc, hgc1, hcase⟩ := (hcase.resolve_left (fun h0 => hk0 h0.1)).2
    refine vc_skip ?_
    refine vc_then ?_
    refine vc_seq ?_
    refine vc_region ?_
    refine vp ?_
    refine vp ?_
    refine vc_callv ca_169 (us := []) (vs := []) rfl [_, _] rfl [0, 2] rfl ((way_spec (d := d) (k := h.k) (A := seps [Sl eNode hl hs, Nodes hs l]) (Vis.at 0 rfl (Rd.vis1 Sl.vis hh rfl)) (Vis.at 1 rfl (Nodes.visK hh hd)) hgr (by omega) key).many) rfl ?_
    rintro _ _ ⟨rfl, rfl⟩
    refine vp ?_
    refine vc_nil ?_
    refine vc_then ?_
    refine vc_seq ?_
    refine vc_region ?_
    refine vp ?_
    refine vp ?_
    refine vc_y (y_fieldE fl_231_2 2 rfl rfl) rfl ?_
    refine vc_y (y_load1 0 rfl one_72 rfl (Rd.vis1 (Sl.vis) hh rfl)) rfl ?_
    refine vp ?_
    refine vc_y (y_elem 1 rfl (Nodes.visC hh hd) (wayN d key) rfl (getLt hc) sl_72 rfl rfl) rfl ?_
    refine vc_y (y_load1 1 rfl one_3 rfl (Rd.vis1 (Nodes.visC hh hd) hc rfl)) rfl ?_
    refine vp ?_
    refine vc_nil ?_
    refine vc_then ?_
    refine vc_seq ?_
    refine vc_region ?_
    iterate 4 refine vp ?_
    refine vc_callv ca_165 (us := []) (vs := []) rfl [_, _, _, _] rfl [2, 0, 1, 0] rfl (ih c l1 fr1 hpc) rfl ?_
    rintro _ _ ⟨hl1, hf1, hs1, ln1, rfl, rfl⟩
    obtain ⟨hc1, hhc1⟩ := getSome ln1 hdc
    refine vc_see 3 rfl ((Nodes.visK hhc1 hdc).imp fun w r => r.len) (fun ek1 => ?_)
    refine vc_see 3 rfl ((Nodes.visN hhc1 hdc).imp fun w r => r.len) (fun en1 => ?_)
    refine vc_see 3 rfl ((Nodes.visC hhc1 hdc).imp fun w r => r.len) (fun ec1 => ?_)
    refine vc_nil ?_
    refine vc_then ?_
    refine vc_seq ?_
    refine vc_region ?_
    refine vp ?_
    refine vp ?_
    refine vc_y (y_fieldP fl_204_0 0 rfl rfl) rfl ?_
    refine vc_y (y_load1 0 rfl one_202 rfl (Pts.vis rfl)) rfl ?_
    refine vp ?_
    refine vc_y (y_elem 1 rfl (Sl.vis) c rfl (getLt hhc1) sl_202 rfl rfl) rfl ?_
    refine vc_callv ca_166 (us := []) (vs := []) rfl [_] rfl [1] rfl (size_specD (h := hc1) (d := dc) (Rd.vis1 Sl.vis hhc1 rfl) (Rd.vis1 Sl.vis hhc1 rfl) ek1 ec1) rfl ?_
    rintro _ _ ⟨rfl, rfl⟩
    refine vp ?_
    refine vc_nil ?_
    refine vc_then ?_
    first | refine vc_condP rfl (fun c76 => ?_) (fun c76 => ?_) | refine vc_condN rfl (fun c76 => ?_) (fun c76 => ?_) | refine vc_cond rfl (fun c76 => ?_) (fun c76 => ?_)
    · skip
      obtain ⟨k, s, l2, d2, hsp, hd2, hg2, hw1, hw2, rfl⟩ := (hcase.resolve_left (fun h0 => by omega)).2
      obtain ⟨hg2r, hg2k, hg2n, hg2c⟩ := hg2
      refine vc_seq ?_
      refine vc_region ?_
      refine vp ?_
      refine vp ?_
      refine vc_callv ca_167 (us := []) (vs := []) rfl [_, _] rfl [1, 0, 0, 0] rfl (split_spec ln1 hsp) rfl ?_
      rintro _ _ ⟨hl2, hf2, hs2, ln2, rfl, rfl⟩
      obtain ⟨h2, hh2⟩ := getSome ln2 hd2
      refine vc_see 3 rfl ((Nodes.visK hh2 hd2).imp fun w r => r.len) (fun ek2 => ?_)
      refine vc_see 3 rfl ((Nodes.visN hh2 hd2).imp fun w r => r.len) (fun en2 => ?_)
      refine vc_see 3 rfl ((Nodes.visC hh2 hd2).imp fun w r => r.len) (fun ec2 => ?_)
      iterate 5 refine vp ?_
      refine vc_nil ?_
      refine vc_then ?_
      refine vc_seq ?_
      refine vc_region ?_
      refine vp ?_
      refine vp ?_
      refine vc_y (y_fieldP fl_204_0 0 rfl rfl) rfl ?_
      refine vc_y (y_load1 0 rfl one_202 rfl (Pts.vis rfl)) rfl ?_
      refine vp ?_
      refine vc_y (y_elem 1 rfl (Sl.vis) i rfl (getLt hh2) sl_202 rfl rfl) rfl ?_
      refine vp ?_
      refine vc_nil ?_
      refine vc_then ?_
      refine vc_openN 3 rfl hh2 hd2 ?_
      refine vc_draw (by kernel_rfl) _ (some 21) [5] rfl ?_
      refine tpp 0 ?_
      refine tpp 1 ?_
      refine tpp 2 ?_
      refine tpp 3 ?_
      refine tp 4 rfl (by exact y_fieldE fl_231_0 0 rfl rfl) ?_
      refine tk 5 rfl (by exact y_load1 0 rfl one_136 rfl (Rd.vis1 (Sl.vis) hh2 rfl)) ?_
      refine tpp 6 ?_
      refine tpp 7 ?_
      refine tpp 10 ?_
      refine tpp 11 ?_
      refine tp 12 rfl (by exact y_fieldE fl_231_2 2 rfl rfl) ?_
      refine tk 13 rfl (by exact y_load1 0 rfl one_72 rfl (Rd.vis1 (Sl.vis) hh2 rfl)) ?_
      refine tpp 14 ?_
      refine tp 15 rfl (by exact y_arith ((wayN d key + 1 : Nat) : Int) rfl (wrapNadd (by omega))) ?_
      refine tpp 16 ?_
      refine va_ready [8, 17] (by kernel_rfl) rfl ?_
      refine vo_cons rfl (fun hC0 => ?_) ?_
      · skip
        refine vc_buildSlice (E := eStr) [(0, _)] [s] rfl rfl (bs_136_1 _ rfl) rfl (fun h97 => ?_)
        refine vc_nil ?_
        refine vc_then ?_
        refine va_kept hC0 [6] rfl ?_
        clear hC0
        refine va_ready [9, 17] (by kernel_rfl) rfl ?_
        refine vo_cons rfl (fun hC0 => ?_) ?_
        · skip
          refine vc_callv ca_193 (us := []) (vs := []) rfl [_, _, _] rfl [1, 0] rfl (insS_spec hw1 (by omega)) rfl ?_
          rintro _ _ ⟨h98, rfl, rfl⟩
          refine vc_nil ?_
          refine vc_then ?_
          refine va_kept hC0 [5] rfl ?_
          clear hC0
          refine va_ready [17] (by kernel_rfl) rfl ?_
          refine vo_cons rfl (fun hC0 => ?_) ?_
          · skip
            refine vc_buildSlice (E := eNat) [(0, _)] [k] rfl rfl (bs_72_1 _ rfl) rfl (fun h106 => ?_)
            refine vc_nil ?_
            refine vc_then ?_
            refine va_kept hC0 [6] rfl ?_
            clear hC0
            refine va_ready [18] (by kernel_rfl) rfl ?_
            refine vo_cons rfl (fun hC0 => ?_) ?_
            · skip
              refine vc_callv ca_194 (us := []) (vs := []) rfl [_, _, _] rfl [3, 0] rfl (insN_spec hw2 (by omega)) rfl ?_
              rintro _ _ ⟨h107, rfl, rfl⟩
              refine vc_nil ?_
              refine vc_then ?_
              refine va_kept hC0 [5] rfl ?_
              clear hC0
              refine tpp 19 ?_
              refine tp 20 rfl (by exact y_fieldE fl_231_0 0 rfl rfl) ?_
              refine va_ready [21] (by kernel_rfl) rfl ?_
              refine vo_cons rfl (fun hC0 => ?_) ?_
              · skip
                refine vc_storeE 5 rfl [_] ⟨h98, h2.n, h2.c⟩ rfl rfl rfl sz_136 rfl hh2 (Nat.le_of_ble_eq_true rfl) rfl ?_
                refine vc_nil ?_
                refine vc_then ?_
                refine va_gone hC0 (by kernel_rfl) ?_
                clear hC0
                refine va_ready [22] (by kernel_rfl) rfl ?_
                refine vo_cons rfl (fun hC0 => ?_) ?_
                · skip
                  refine vp ?_
                  refine vc_nil ?_
                  refine vc_then ?_
                  refine va_gone hC0 (by kernel_rfl) ?_
                  clear hC0
                  refine va_ready [23] (by kernel_rfl) rfl ?_
                  refine vo_cons rfl (fun hC0 => ?_) ?_
                  · skip
                    refine vc_y (y_fieldE fl_231_2 2 rfl rfl) rfl ?_
                    refine vc_nil ?_
                    refine vc_then ?_
                    refine va_gone hC0 (by kernel_rfl) ?_
                    clear hC0
                    refine va_ready [24] (by kernel_rfl) rfl ?_
                    refine vo_cons rfl (fun hC0 => ?_) ?_
                    · skip
                      refine vc_storeE 5 rfl [_] ⟨h98, h2.n, h107⟩ rfl rfl rfl sz_72 rfl (List.getElem?_set_self (getLt hh2)) (Nat.le_of_ble_eq_true rfl) rfl ?_
                      refine vc_nil ?_
                      refine vc_then ?_
                      refine va_gone hC0 (by kernel_rfl) ?_
                      clear hC0
                      refine va_done (by kernel_rfl) ?_
                      exact vc_end0n Tryz.results165 _ (ent_at [4, 4, 4, 1, 1, 0, 0] rfl (ent_cons (ent_cons (ent_cons (ent_closeN ⟨h98, h2.n, h107⟩ (insK d2 (wayN d key) s k) (List.getElem?_set_self (by rw [List.length_set]; exact getLt hh2)) (List.getElem?_set_self (getLt hd2)) List.length_set (fun j hj => by rw [List.getElem?_set_ne (Ne.symm hj), List.getElem?_set_ne (Ne.symm hj)]) (fun j hj => by rw [List.getElem?_set_ne (Ne.symm hj)])))))) ⟨hl2, hf2, _, by simp [ln2], rfl, rfl⟩
                    exact vo_nil
                  exact vo_nil
                exact vo_nil
              exact vo_nil
            exact vo_nil
          exact vo_nil
        refine vo_cons rfl (fun hC0 => ?_) ?_
        · skip
          refine vc_buildSlice (E := eNat) [(0, _)] [k] rfl rfl (bs_72_1 _ rfl) rfl (fun h106 => ?_)
          refine vc_nil ?_
          refine vc_then ?_
          refine va_kept hC0 [7] rfl ?_
          clear hC0
          refine va_ready [9] (by kernel_rfl) rfl ?_
          refine vo_cons rfl (fun hC0 => ?_) ?_
          · skip
            refine vc_callv ca_193 (us := []) (vs := []) rfl [_, _, _] rfl [2, 1] rfl (insS_spec hw1 (by omega)) rfl ?_
            rintro _ _ ⟨h98, rfl, rfl⟩
            refine vc_nil ?_
            refine vc_then ?_
            refine va_kept hC0 [6] rfl ?_
            clear hC0
            refine va_ready [18] (by kernel_rfl) rfl ?_
            refine vo_cons rfl (fun hC0 => ?_) ?_
            · skip
              refine vc_callv ca_194 (us := []) (vs := []) rfl [_, _, _] rfl [3, 1] rfl (insN_spec hw2 (by omega)) rfl ?_
              rintro _ _ ⟨h107, rfl, rfl⟩
              refine vc_nil ?_
              refine vc_then ?_
              refine va_kept hC0 [5] rfl ?_
              clear hC0
              refine tpp 19 ?_
              refine tp 20 rfl (by exact y_fieldE fl_231_0 0 rfl rfl) ?_
              refine va_ready [21] (by kernel_rfl) rfl ?_
              refine vo_cons rfl (fun hC0 => ?_) ?_
              · skip
                refine vc_storeE 5 rfl [_] ⟨h98, h2.n, h2.c⟩ rfl rfl rfl sz_136 rfl hh2 (Nat.le_of_ble_eq_true rfl) rfl ?_
                refine vc_nil ?_
                refine vc_then ?_
                refine va_gone hC0 (by kernel_rfl) ?_
                clear hC0
                refine va_ready [22] (by kernel_rfl) rfl ?_
                refine vo_cons rfl (fun hC0 => ?_) ?_
                · skip
                  refine vp ?_
                  refine vc_nil ?_
                  refine vc_then ?_
                  refine va_gone hC0 (by kernel_rfl) ?_
                  clear hC0
                  refine va_ready [23] (by kernel_rfl) rfl ?_
                  refine vo_cons rfl (fun hC0 => ?_) ?_
                  · skip
                    refine vc_y (y_fieldE fl_231_2 2 rfl rfl) rfl ?_
                    refine vc_nil ?_
                    refine vc_then ?_
                    refine va_gone hC0 (by kernel_rfl) ?_
                    clear hC0
                    refine va_ready [24] (by kernel_rfl) rfl ?_
                    refine vo_cons rfl (fun hC0 => ?_) ?_
                    · skip
                      refine vc_storeE 5 rfl [_] ⟨h98, h2.n, h107⟩ rfl rfl rfl sz_72 rfl (List.getElem?_set_self (getLt hh2)) (Nat.le_of_ble_eq_true rfl) rfl ?_
                      refine vc_nil ?_
                      refine vc_then ?_
                      refine va_gone hC0 (by kernel_rfl) ?_
                      clear hC0
                      refine va_done (by kernel_rfl) ?_
                      exact vc_end0n Tryz.results165 _ (ent_at [4, 4, 4, 1, 1, 0, 0] rfl (ent_cons (ent_cons (ent_cons (ent_closeN ⟨h98, h2.n, h107⟩ (insK d2 (wayN d key) s k) (List.getElem?_set_self (by rw [List.length_set]; exact getLt hh2)) (List.getElem?_set_self (getLt hd2)) List.length_set (fun j hj => by rw [List.getElem?_set_ne (Ne.symm hj), List.getElem?_set_ne (Ne.symm hj)]) (fun j hj => by rw [List.getElem?_set_ne (Ne.symm hj)])))))) ⟨hl2, hf2, _, by simp [ln2], rfl, rfl⟩
                    exact vo_nil
                  exact vo_nil
                exact vo_nil
              exact vo_nil
            exact vo_nil
          exact vo_nil
        exact vo_nil
      refine vo_cons rfl (fun hC0 => ?_) ?_
      · skip
        refine vc_buildSlice (E := eNat) [(0, _)] [k] rfl rfl (bs_72_1 _ rfl) rfl (fun h106 => ?_)
        refine vc_nil ?_
        refine vc_then ?_
        refine va_kept hC0 [6] rfl ?_
        clear hC0
        refine va_ready [8] (by kernel_rfl) rfl ?_
        refine vo_cons rfl (fun hC0 => ?_) ?_
        · skip
          refine vc_buildSlice (E := eStr) [(0, _)] [s] rfl rfl (bs_136_1 _ rfl) rfl (fun h97 => ?_)
          refine vc_nil ?_
          refine vc_then ?_
          refine va_kept hC0 [7] rfl ?_
          clear hC0
          refine va_ready [9] (by kernel_rfl) rfl ?_
          refine vo_cons rfl (fun hC0 => ?_) ?_
          · skip
            refine vc_callv ca_193 (us := []) (vs := []) rfl [_, _, _] rfl [2, 0] rfl (insS_spec hw1 (by omega)) rfl ?_
            rintro _ _ ⟨h98, rfl, rfl⟩
            refine vc_nil ?_
            refine vc_then ?_
            refine va_kept hC0 [6] rfl ?_
            clear hC0
            refine va_ready [18] (by kernel_rfl) rfl ?_
            refine vo_cons rfl (fun hC0 => ?_) ?_
            · skip
              refine vc_callv ca_194 (us := []) (vs := []) rfl [_, _, _] rfl [3, 1] rfl (insN_spec hw2 (by omega)) rfl ?_
              rintro _ _ ⟨h107, rfl, rfl⟩
              refine vc_nil ?_
              refine vc_then ?_
              refine va_kept hC0 [5] rfl ?_
              clear hC0
              refine tpp 19 ?_
              refine tp 20 rfl (by exact y_fieldE fl_231_0 0 rfl rfl) ?_
              refine va_ready [21] (by kernel_rfl) rfl ?_
              refine vo_cons rfl (fun hC0 => ?_) ?_
              · skip
                refine vc_storeE 5 rfl [_] ⟨h98, h2.n, h2.c⟩ rfl rfl rfl sz_136 rfl hh2 (Nat.le_of_ble_eq_true rfl) rfl ?_
                refine vc_nil ?_
                refine vc_then ?_
                refine va_gone hC0 (by kernel_rfl) ?_
                clear hC0
                refine va_ready [22] (by kernel_rfl) rfl ?_
                refine vo_cons rfl (fun hC0 => ?_) ?_
                · skip
                  refine vp ?_
                  refine vc_nil ?_
                  refine vc_then ?_
                  refine va_gone hC0 (by kernel_rfl) ?_
                  clear hC0
                  refine va_ready [23] (by kernel_rfl) rfl ?_
                  refine vo_cons rfl (fun hC0 => ?_) ?_
                  · skip
                    refine vc_y (y_fieldE fl_231_2 2 rfl rfl) rfl ?_
                    refine vc_nil ?_
                    refine vc_then ?_
                    refine va_gone hC0 (by kernel_rfl) ?_
                    clear hC0
                    refine va_ready [24] (by kernel_rfl) rfl ?_
                    refine vo_cons rfl (fun hC0 => ?_) ?_
                    · skip
                      refine vc_storeE 5 rfl [_] ⟨h98, h2.n, h107⟩ rfl rfl rfl sz_72 rfl (List.getElem?_set_self (getLt hh2)) (Nat.le_of_ble_eq_true rfl) rfl ?_
                      refine vc_nil ?_
                      refine vc_then ?_
                      refine va_gone hC0 (by kernel_rfl) ?_
                      clear hC0
                      refine va_done (by kernel_rfl) ?_
                      exact vc_end0n Tryz.results165 _ (ent_at [4, 4, 4, 1, 1, 0, 0] rfl (ent_cons (ent_cons (ent_cons (ent_closeN ⟨h98, h2.n, h107⟩ (insK d2 (wayN d key) s k) (List.getElem?_set_self (by rw [List.length_set]; exact getLt hh2)) (List.getElem?_set_self (getLt hd2)) List.length_set (fun j hj => by rw [List.getElem?_set_ne (Ne.symm hj), List.getElem?_set_ne (Ne.symm hj)]) (fun j hj => by rw [List.getElem?_set_ne (Ne.symm hj)])))))) ⟨hl2, hf2, _, by simp [ln2], rfl, rfl⟩
                    exact vo_nil
                  exact vo_nil
                exact vo_nil
              exact vo_nil
            exact vo_nil
          exact vo_nil
        exact vo_nil
      exact vo_nil
    · skip
      obtain ⟨_, rfl, rfl⟩ := hcase.resolve_right (fun h0 => by omega)
      refine vc_skip ?_
      exact vc_end0n Tryz.results165 _ (ent_pick [1, 0, 0, 0] rfl) ⟨hl1, hf1, hs1, ln1, rfl, rfl⟩
theorem put_spec {b : Nat} {l : List Nd} {fr : List Nat} {r : Option Nat} {m : Int} {hl hf : SH} {hs : List Nd3} (hlen : hs.length = l.length) (key : ByteArray) (n : Int) : ∀ (f i : Nat) (l' : List Nd) (fr' : List Nat), PutR key n f l fr i l' fr' → Does Tryz.prog 165 [.pointer (some ⟨b, 0, none⟩), .int .i64 (i : Int), .string key, .int .i64 n] (TO b ⟨l, fr, r, m⟩ hl hf hs) (fun v l2 => ∃ hl' hf' hs', hs'.length = l'.length ∧ v = .tuple #[] ∧ l2 = TO b ⟨l', fr', r, m⟩ hl' hf' hs')
  | 0, _, _, _, h => by obtain ⟨_, _, h0, _⟩ := h.inv; omega
  | f + 1, i, l', fr', h => put_step hlen key n h (fun c l1 fr1 h1 => put_spec hlen key n f c l1 fr1 h1)
end Go.Proofs.YtcpbibdbahfgaaaGreat
