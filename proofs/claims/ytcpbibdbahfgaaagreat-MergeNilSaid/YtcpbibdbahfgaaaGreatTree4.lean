/-
 The walk of a split.
-/
import Derived.Test.YtcpbibdbahfgaaaGreatTree3
set_option linter.unusedVariables false
set_option linter.unusedSimpArgs false
set_option autoImplicit false
namespace Go.Proofs.YtcpbibdbahfgaaaGreat
open Go.Eng
namespace FTree4
theorem fl_204_0 : Fld Tryz.prog 204 0 0 := ⟨_, _, 0, Tryz.underlying204, rfl, rfl, by kernel_rfl⟩
theorem one_202 : TyOne Tryz.prog 202 := ⟨⟨_, Tryz.underlying202, rfl⟩, by kernel_rfl⟩
theorem sl_202 : TySl Tryz.prog 202 231 3 := ⟨Tryz.underlying202, by kernel_rfl⟩
theorem ag_231 : TyAgg Tryz.prog 231 3 := ⟨⟨_, Tryz.underlying231, rfl⟩, by kernel_rfl⟩
theorem ze_231 : (Tryz.prog.info? 231).map (·.zero) = some (some (.agg #[.slice none 0 0, .slice none 0 0, .slice none 0 0])) := by kernel_rfl
theorem sz_231 : (Tryz.prog.info? 231).map (·.size) = some 3 := by kernel_rfl
theorem ca_166 : Callable Tryz.prog 166 := ⟨_, _, Tryz.func166, rfl, rfl⟩
theorem ca_163 : Callable Tryz.prog 163 := ⟨_, _, Tryz.func163, rfl, rfl⟩
theorem fl_231_0 : Fld Tryz.prog 231 0 0 := ⟨_, _, 0, Tryz.underlying231, rfl, rfl, by kernel_rfl⟩
theorem one_136 : TyOne Tryz.prog 136 := ⟨⟨_, Tryz.underlying136, rfl⟩, by kernel_rfl⟩
theorem sl_136 : TySl Tryz.prog 136 9 1 := ⟨Tryz.underlying136, by kernel_rfl⟩
theorem fl_231_1 : Fld Tryz.prog 231 1 1 := ⟨_, _, 0, Tryz.underlying231, rfl, rfl, by kernel_rfl⟩
theorem one_72 : TyOne Tryz.prog 72 := ⟨⟨_, Tryz.underlying72, rfl⟩, by kernel_rfl⟩
theorem sl_72 : TySl Tryz.prog 72 3 1 := ⟨Tryz.underlying72, by kernel_rfl⟩
theorem ca_195 : Callable Tryz.prog 195 := ⟨_, _, Tryz.func195, rfl, rfl⟩
theorem ca_196 : Callable Tryz.prog 196 := ⟨_, _, Tryz.func196, rfl, rfl⟩
theorem bu_231_0_1 (v0 : Value) (v1 : Value) (h0 : v0.cells = #[v0]) (h1 : v1.cells = #[v1]) (w : World) : (Instr.build 231 #[(0, v0), (1, v1)]).run Tryz.prog w = .ok (.agg #[v0, v1, .slice none 0 0]) w := by
 have hz := @ze_231
 exact Go.Eng.run_build (pl := [(0, 1), (1, 1), (2, 1)]) hz Tryz.underlying231 (by kernel_rfl) rfl (by simp [Instr.fill, h0, h1, cells_agg]) w
theorem ca_164 : Callable Tryz.prog 164 := ⟨_, _, Tryz.func164, rfl, rfl⟩
theorem sz_136 : (Tryz.prog.info? 136).map (·.size) = some 1 := by kernel_rfl
theorem sz_72 : (Tryz.prog.info? 72).map (·.size) = some 1 := by kernel_rfl
theorem one_9 : TyOne Tryz.prog 9 := ⟨⟨_, Tryz.underlying9, rfl⟩, by kernel_rfl⟩
theorem fl_231_2 : Fld Tryz.prog 231 2 2 := ⟨_, _, 0, Tryz.underlying231, rfl, rfl, by kernel_rfl⟩
theorem bu_231_0_2 (v0 : Value) (v2 : Value) (h0 : v0.cells = #[v0]) (h2 : v2.cells = #[v2]) (w : World) : (Instr.build 231 #[(0, v0), (2, v2)]).run Tryz.prog w = .ok (.agg #[v0, .slice none 0 0, v2]) w := by
 have hz := @ze_231
 exact Go.Eng.run_build (pl := [(0, 1), (1, 1), (2, 1)]) hz Tryz.underlying231 (by kernel_rfl) rfl (by simp [Instr.fill, h0, h2, cells_agg]) w
end FTree4
open FTree4
theorem AddR.len {l l' : List Nd} {fr fr' : List Nat} {x : Nd} {k : Nat} (h : AddR l fr x k l' fr') : l.length ≤ l'.length ∧ k < l'.length ∧ l'[k]? = some x ∧ ∀ j, j ≠ k → j < l.length → l'[j]? = l[j]? := by
 rcases h with ⟨fr0, i, hf, hi, hb⟩ | ⟨hf, hb⟩
 ·refine ⟨by simp, by simp; exact hi, by rw [List.getElem?_set_self hi], fun j hj _ => by rw [List.getElem?_set_ne (Ne.symm hj)]⟩
 ·refine ⟨by simp, by simp, by rw [List.getElem?_append_right (by omega)]; simp, fun j _ hj => by rw [List.getElem?_append_left hj]⟩
theorem Nodes.turn {hs : List Nd3} {ds : List Nd} {i : Nat} {h h' : Nd3} {d d' : Nd} (e : hs[i]? = some h) (e' : ds[i]? = some d) (hE : Ent (NodeC h d) (NodeC h' d')) : Ent (Nodes hs ds) (Nodes (hs.set i h') (ds.set i d')) := by
 rw [← NodesX.nil, ← NodesX.nil]
 refine (NodesX.out (ho := []) (by simp) e e').trans ((Ent.sep hE Ent.rfl).trans ?_)
 exact NodesX.into List.not_mem_nil (by rw [List.getElem?_set_self (getLt e)]) (by rw [List.getElem?_set_self (getLt e')]) List.length_set (fun j hj _ => by rw [List.getElem?_set_ne (Ne.symm hj)]) (fun j hj _ => by rw [List.getElem?_set_ne (Ne.symm hj)])
/-- A slice's first part, by itself. -/
theorem Sl.first {α : Type} {E : Enc α} {h : SH} {xs : List α} {i : Nat} (hi : i ≤ xs.length) (hc : i ≤ h.cap) : Ent (Sl E h xs) (Sl E (h.cut E.sz 0 i i) (xs.take i)) := by
 have := Sl.cut (E := E) (h := h) (xs := xs) (lo := 0) (hi := i) (mx := i) (Nat.zero_le _) hi (Nat.le_refl _) hc
 rwa [List.drop_zero] at this
theorem split_spec {b : Nat} {l l' : List Nd} {fr fr' : List Nat} {r : Option Nat} {m : Int} {hl hf : SH} {hs : List Nd3} (hlen : hs.length = l.length) {i k : Nat} {s : ByteArray} (hsp : SplitR l fr i k s l' fr') :
  Does Tryz.prog 167 [.pointer (some ⟨b, 0, none⟩), .int .i64 (i : Int)] (TO b ⟨l, fr, r, m⟩ hl hf hs) (fun v l2 => ∃ hl' hf' hs', hs'.length = l'.length ∧ v = .tuple #[.int .i64 (k : Int), .string s] ∧ l2 = TO b ⟨l', fr', r, m⟩ hl' hf' hs') := by
 refine spec_of Tryz.func167 rfl Tryz.ntmps167 Tryz.results167 _ (by simp) fun ι F => ?_
 obtain ⟨d, l1, hd, hg, hs0, hlf, hkd, hA, hki, rfl⟩ := hsp
 obtain ⟨h, hh⟩ := getSome hlen hd
 obtain ⟨hgr, hgk, hgn, hgc⟩ := hg
 refine vc_see 3 rfl ((Nodes.visK hh hd).imp fun w r => (⟨r.len, r.cap⟩ : h.k.len = d.keys.length ∧ d.keys.length ≤ h.k.cap)) (fun ek => ?_)
 refine vc_see 3 rfl ((Nodes.visN hh hd).imp fun w r => (⟨r.len, r.cap⟩ : h.n.len = d.nums.length ∧ d.nums.length ≤ h.n.cap)) (fun en => ?_)
 refine vc_see 3 rfl ((Nodes.visC hh hd).imp fun w r => (⟨r.len, r.cap⟩ : h.c.len = d.kids.length ∧ d.kids.length ≤ h.c.cap)) (fun ec => ?_)
 obtain ⟨al, akl, alk, alo⟩ := hA.len
 have hsz : sizeN d ≤ 1000000 := by unfold sizeN; split <;> omega
 refine vc_seq ?_
 refine vc_region ?_
 refine vp ?_
 refine vp ?_
 refine vc_nil ?_
 refine vc_then ?_
 refine vc_seq ?_
 refine vc_region ?_
 refine vp ?_
 refine vp ?_
 refine vc_y (y_fieldP fl_204_0 0 rfl rfl) rfl ?_
 refine vc_y (y_load1 0 rfl one_202 rfl (Pts.vis rfl)) rfl ?_
 refine vp ?_
 refine vc_y (y_elem 1 rfl (Sl.vis) i rfl (by have := getLt hh; omega) sl_202 rfl rfl) rfl ?_
 refine vc_y (y_loadA 1 rfl (cs := [_, _, _]) ag_231 rfl (Rd.visA (Sl.vis) hh rfl)) rfl ?_
 refine vc_alloc [.slice none 0 0, .slice none 0 0, .slice none 0 0] ze_231 rfl rfl (fun b6 => ?_)
 refine vc_storeP 0 rfl [_, _, _] [_, _, _] rfl rfl rfl sz_231 rfl rfl rfl ?_
 refine vc_nil ?_
 refine vc_then ?_
 refine vc_seq ?_
 refine vc_region ?_
 refine vc_callv ca_166 (us := []) (vs := []) rfl [_] rfl [0] rfl (size_specD (h := h) (d := d) (by rw [add_lit]; exact Pts.vis rfl) (by rw [add_lit]; exact Pts.vis rfl) ek.1 ec.1) rfl ?_
 rintro _ _ ⟨rfl, rfl⟩
 refine vc_y (y_quo ((sizeN d / 2 : Nat) : Int) rfl rfl (by decide) (half hsz)) rfl ?_
 refine vp ?_
 refine vc_nil ?_
 refine vc_then ?_
 refine vc_seq ?_
 refine vc_seq ?_
 refine vc_region ?_
 refine vc_callv ca_163 (us := []) (vs := []) rfl [_] rfl [0] rfl (leaf_specD (h := h) (d := d) (by rw [add_lit]; exact Pts.vis rfl) ec.1) rfl ?_
 rintro _ _ ⟨rfl, rfl⟩
 refine vc_nil ?_
 refine vc_then ?_
 first | refine vc_condP rfl (fun c19 => ?_) (fun c19 => ?_) | refine vc_condN rfl (fun c19 => ?_) (fun c19 => ?_) | refine vc_cond rfl (fun c19 => ?_) (fun c19 => ?_)
 ·skip
  have hkids : d.kids = [] := by simpa using c19
  have hsd : sizeN d = d.keys.length := by simp [sizeN, leafN, hkids]
  have hlk := hlf hkids
  have hck : cutK d = sizeN d / 2 := by simp [cutK, hkids, hsd]
  have hcR : cutR d = ⟨d.keys.drop (sizeN d / 2), d.nums.drop (sizeN d / 2), []⟩ := by simp [cutR, hkids, hsd]
  have hcL : cutL d = ⟨d.keys.take (sizeN d / 2), d.nums.take (sizeN d / 2), []⟩ := by simp [cutL, hkids, hsd]
  rw [hck] at hs0
  rw [hcR] at hA
  refine vc_seq ?_
  refine vc_draw (by kernel_rfl) _ none [0] rfl ?_
  refine tpp 0 ?_
  refine tp 1 rfl (by exact y_fieldP fl_231_0 0 rfl rfl) ?_
  refine tk 2 rfl (by exact y_load1 0 rfl one_136 rfl (Pts.vis rfl)) ?_
  refine tpp 3 ?_
  refine tp 4 rfl (by exact y_slice sl_136 rfl (sizeN d / 2) h.k.len h.k.cap ⟨_, _, rfl, rfl⟩ rfl rfl (by simp) (by omega) (by omega) (by omega)) ?_
  refine tp 6 rfl (by exact y_fieldP fl_231_1 1 rfl rfl) ?_
  refine tk 7 rfl (by exact y_load1 0 rfl one_72 rfl (Pts.vis rfl)) ?_
  refine tpp 8 ?_
  refine tp 9 rfl (by exact y_slice sl_72 rfl (sizeN d / 2) h.n.len h.n.cap ⟨_, _, rfl, rfl⟩ rfl rfl (by simp) (by omega) (by omega) (by omega)) ?_
  refine va_ready [5] (by kernel_rfl) rfl ?_
  refine vo_cons rfl (fun hC0 => ?_) ?_
  ·skip
   refine vc_callv ca_195 (us := []) (vs := []) rfl [_] rfl [4] rfl (cloneS_spec ((Nodes.visK hh hd).imp fun w r => r.cutD (by omega)) (by simp; omega)) rfl ?_
   rintro _ _ ⟨h25, rfl, rfl⟩
   refine vc_nil ?_
   refine vc_then ?_
   refine va_kept hC0 [2] rfl ?_
   clear hC0
   refine va_ready [10] (by kernel_rfl) rfl ?_
   refine vo_cons rfl (fun hC0 => ?_) ?_
   ·skip
    refine vc_callv ca_196 (us := []) (vs := []) rfl [_] rfl [1] rfl (cloneI_spec ((Nodes.visN hh hd).imp fun w r => r.cutD (by omega)) (by simp; omega)) rfl ?_
    rintro _ _ ⟨h30, rfl, rfl⟩
    refine vc_nil ?_
    refine vc_then ?_
    refine va_kept hC0 [3] rfl ?_
    clear hC0
    refine tp 11 rfl (by exact y_build [(0, _), (1, _)] [_, _, _] rfl (bu_231_0_1 _ _ rfl rfl)) ?_
    refine va_ready [12] (by kernel_rfl) rfl ?_
    refine vo_cons rfl (fun hC0 => ?_) ?_
    ·skip
     refine vc_ent (l' := Sl eNat nilS [] :: _) sl_new ?_
     refine vc_callv ca_164 (us := []) (vs := []) rfl [_, _] rfl [5, 5, 5, 2, 2, 1, 0] rfl (add_spec hlen (h := ⟨h25, h30, nilS⟩) hA) rfl ?_
     rintro _ _ ⟨hl1, hf1, hs1, ln1, hk1, ho1, rfl, rfl⟩
     refine vc_nil ?_
     refine vc_then ?_
     refine va_kept hC0 [4] rfl ?_
     clear hC0
     refine tpp 13 ?_
     refine va_done (by kernel_rfl) ?_
     refine vc_then ?_
     refine vc_seq ?_
     have hh1 : hs1[i]? = some h := by rw [ho1 i (Ne.symm hki) (getLt hd)]; exact hh
     have hd1 : l1[i]? = some d := by rw [alo i (Ne.symm hki) (getLt hd)]; exact hd
     refine vc_draw (by kernel_rfl) _ (some 22) [4, 0, 0] rfl ?_
     refine tpp 0 ?_
     refine tpp 1 ?_
     refine tp 2 rfl (by exact y_fieldP fl_204_0 0 rfl rfl) ?_
     refine tk 3 rfl (by exact y_load1 1 rfl one_202 rfl (Pts.vis rfl)) ?_
     refine tpp 4 ?_
     refine tpp 5 ?_
     refine tpp 6 ?_
     refine tp 7 rfl (by exact y_fieldP fl_204_0 0 rfl rfl) ?_
     refine tk 8 rfl (by exact y_load1 1 rfl one_202 rfl (Pts.vis rfl)) ?_
     refine tpp 9 ?_
     refine tp 10 rfl (by exact y_fieldP fl_231_0 0 rfl rfl) ?_
     refine tk 11 rfl (by exact y_load1 0 rfl one_136 rfl (Pts.vis rfl)) ?_
     refine tpp 12 ?_
     refine tpp 13 ?_
     refine tp 14 rfl (by exact y_slice sl_136 rfl 0 (sizeN d / 2) (sizeN d / 2) rfl ⟨_, _, rfl, rfl⟩ ⟨_, _, rfl, rfl⟩ (by simp) (by omega) (by omega) (by omega)) ?_
     refine tp 15 rfl (by exact y_fieldP fl_231_1 1 rfl rfl) ?_
     refine tk 16 rfl (by exact y_load1 0 rfl one_72 rfl (Pts.vis rfl)) ?_
     refine tpp 17 ?_
     refine tpp 18 ?_
     refine tp 19 rfl (by exact y_slice sl_72 rfl 0 (sizeN d / 2) (sizeN d / 2) rfl ⟨_, _, rfl, rfl⟩ ⟨_, _, rfl, rfl⟩ (by simp) (by omega) (by omega) (by omega)) ?_
     refine tk 20 rfl (by exact y_elem 2 rfl (Sl.vis) i rfl (getLt hh1) sl_202 rfl rfl) ?_
     refine tp 21 rfl (by exact y_fieldE fl_231_0 0 rfl rfl) ?_
     refine va_ready [22] (by kernel_rfl) rfl ?_
     refine vo_cons rfl (fun hC0 => ?_) ?_
     ·skip
      refine vc_storeE 1 rfl [_] ⟨h.k.cut 1 0 (sizeN d / 2) (sizeN d / 2), h.n, h.c⟩ rfl rfl rfl sz_136 rfl hh1 (Nat.le_of_ble_eq_true rfl) rfl ?_
      refine vc_nil ?_
      refine vc_then ?_
      refine va_gone hC0 (by kernel_rfl) ?_
      clear hC0
      refine va_ready [23] (by kernel_rfl) rfl ?_
      refine vo_cons rfl (fun hC0 => ?_) ?_
      ·skip
       refine vc_y (y_elem 1 rfl (Sl.vis) i rfl (by rw [List.length_set]; exact getLt hh1) sl_202 rfl rfl) rfl ?_
       refine vc_nil ?_
       refine vc_then ?_
       refine va_gone hC0 (by kernel_rfl) ?_
       clear hC0
       refine va_ready [24] (by kernel_rfl) rfl ?_
       refine vo_cons rfl (fun hC0 => ?_) ?_
       ·skip
        refine vc_y (y_fieldE fl_231_1 1 rfl rfl) rfl ?_
        refine vc_nil ?_
        refine vc_then ?_
        refine va_gone hC0 (by kernel_rfl) ?_
        clear hC0
        refine va_ready [25] (by kernel_rfl) rfl ?_
        refine vo_cons rfl (fun hC0 => ?_) ?_
        ·skip
         refine vc_storeE 1 rfl [_] ⟨h.k.cut 1 0 (sizeN d / 2) (sizeN d / 2), h.n.cut 1 0 (sizeN d / 2) (sizeN d / 2), h.c⟩ rfl rfl rfl sz_72 rfl (List.getElem?_set_self (getLt hh1)) (Nat.le_of_ble_eq_true rfl) rfl ?_
         refine vc_nil ?_
         refine vc_then ?_
         refine va_gone hC0 (by kernel_rfl) ?_
         clear hC0
         refine va_done (by kernel_rfl) ?_
         refine vc_then ?_
         refine vc_seq ?_
         refine vc_draw (by kernel_rfl) _ none [4, 3] rfl ?_
         refine tpp 0 ?_
         refine tp 1 rfl (by exact y_fieldP fl_231_0 0 rfl rfl) ?_
         refine tk 2 rfl (by exact y_load1 0 rfl one_136 rfl (Pts.vis rfl)) ?_
         refine tpp 3 ?_
         refine tk 4 rfl (by exact y_elem 1 rfl (Nodes.visK hh1 hd1) (sizeN d / 2) rfl (getLt hs0) sl_136 rfl rfl) ?_
         refine tk 5 rfl (by exact y_load1 1 rfl one_9 rfl (Rd.vis1 (Nodes.visK hh1 hd1) hs0 rfl)) ?_
         refine tpp 6 ?_
         refine tpp 7 ?_
         refine va_done (by kernel_rfl) ?_
         refine vc_then ?_
         refine vc_ret ?_
         refine vc_thenRet ?_
         exact vc_end2 Tryz.results167 rfl rfl _ (ent_at [0, 0, 0, 0] rfl (ent_cons (ent_cons (ent_cons (ent_head (B := Nodes ((hs1.set i ⟨h.k.cut 1 0 (sizeN d / 2) (sizeN d / 2), h.n, h.c⟩).set i ⟨h.k.cut 1 0 (sizeN d / 2) (sizeN d / 2), h.n.cut 1 0 (sizeN d / 2) (sizeN d / 2), h.c⟩) (l1.set i (cutL d))) (by rw [List.set_set, hcL]; exact Nodes.turn hh1 hd1 (Ent.sep (Sl.first (by omega) (by omega)) (Ent.sep (Sl.first (by omega) (by omega)) (by rw [hkids]; exact Ent.rfl))))))))) ⟨hl1, hf1, _, by simp [ln1], rfl, rfl⟩
        exact vo_nil
       exact vo_nil
      exact vo_nil
     exact vo_nil
    exact vo_nil
   exact vo_nil
  exact vo_nil
 ·skip
  have hkids : d.kids ≠ [] := by simpa using c19
  have hsd : sizeN d = d.kids.length := by simp [sizeN, leafN, hkids]
  obtain ⟨hk2, hkk⟩ := hkd hkids
  have hck : cutK d = sizeN d / 2 - 1 := by simp [cutK, hkids, hsd]
  have hcR : cutR d = ⟨d.keys.drop (sizeN d / 2), [], d.kids.drop (sizeN d / 2)⟩ := by simp [cutR, hkids, hsd]
  have hcL : cutL d = ⟨d.keys.take (sizeN d / 2 - 1), d.nums, d.kids.take (sizeN d / 2)⟩ := by simp [cutL, hkids, hsd]
  rw [hck] at hs0
  rw [hcR] at hA
  refine vc_skip ?_
  refine vc_then ?_
  refine vc_seq ?_
  refine vc_draw (by kernel_rfl) _ none [0] rfl ?_
  refine tpp 0 ?_
  refine tp 1 rfl (by exact y_fieldP fl_231_0 0 rfl rfl) ?_
  refine tk 2 rfl (by exact y_load1 0 rfl one_136 rfl (Pts.vis rfl)) ?_
  refine tpp 3 ?_
  refine tp 4 rfl (by exact y_slice sl_136 rfl (sizeN d / 2) h.k.len h.k.cap ⟨_, _, rfl, rfl⟩ rfl rfl (by simp) (by omega) (by omega) (by omega)) ?_
  refine tp 6 rfl (by exact y_fieldP fl_231_2 2 rfl rfl) ?_
  refine tk 7 rfl (by exact y_load1 0 rfl one_72 rfl (Pts.vis rfl)) ?_
  refine tpp 8 ?_
  refine tp 9 rfl (by exact y_slice sl_72 rfl (sizeN d / 2) h.c.len h.c.cap ⟨_, _, rfl, rfl⟩ rfl rfl (by simp) (by omega) (by omega) (by omega)) ?_
  refine va_ready [5] (by kernel_rfl) rfl ?_
  refine vo_cons rfl (fun hC0 => ?_) ?_
  ·skip
   refine vc_callv ca_195 (us := []) (vs := []) rfl [_] rfl [4] rfl (cloneS_spec ((Nodes.visK hh hd).imp fun w r => r.cutD (by omega)) (by simp; omega)) rfl ?_
   rintro _ _ ⟨h68, rfl, rfl⟩
   refine vc_nil ?_
   refine vc_then ?_
   refine va_kept hC0 [2] rfl ?_
   clear hC0
   refine va_ready [10] (by kernel_rfl) rfl ?_
   refine vo_cons rfl (fun hC0 => ?_) ?_
   ·skip
    refine vc_callv ca_196 (us := []) (vs := []) rfl [_] rfl [1] rfl (cloneN_spec ((Nodes.visC hh hd).imp fun w r => r.cutD (by omega)) (by simp; omega)) rfl ?_
    rintro _ _ ⟨h73, rfl, rfl⟩
    refine vc_nil ?_
    refine vc_then ?_
    refine va_kept hC0 [3] rfl ?_
    clear hC0
    refine tp 11 rfl (by exact y_build [(0, _), (2, _)] [_, _, _] rfl (bu_231_0_2 _ _ rfl rfl)) ?_
    refine va_ready [12] (by kernel_rfl) rfl ?_
    refine vo_cons rfl (fun hC0 => ?_) ?_
    ·skip
     refine vc_ent (l' := Sl eInt nilS [] :: _) sl_new ?_
     refine vc_callv ca_164 (us := []) (vs := []) rfl [_, _] rfl [5, 5, 5, 2, 2, 0, 0] rfl (add_spec hlen (h := ⟨h68, nilS, h73⟩) hA) rfl ?_
     rintro _ _ ⟨hl1, hf1, hs1, ln1, hk1, ho1, rfl, rfl⟩
     refine vc_nil ?_
     refine vc_then ?_
     refine va_kept hC0 [4] rfl ?_
     clear hC0
     refine tpp 13 ?_
     refine va_done (by kernel_rfl) ?_
     refine vc_then ?_
     refine vc_seq ?_
     have hh1 : hs1[i]? = some h := by rw [ho1 i (Ne.symm hki) (getLt hd)]; exact hh
     have hd1 : l1[i]? = some d := by rw [alo i (Ne.symm hki) (getLt hd)]; exact hd
     refine vc_draw (by kernel_rfl) _ (some 24) [4, 0, 0] rfl ?_
     refine tpp 0 ?_
     refine tpp 1 ?_
     refine tp 2 rfl (by exact y_fieldP fl_204_0 0 rfl rfl) ?_
     refine tk 3 rfl (by exact y_load1 1 rfl one_202 rfl (Pts.vis rfl)) ?_
     refine tpp 4 ?_
     refine tpp 5 ?_
     refine tpp 6 ?_
     refine tp 7 rfl (by exact y_fieldP fl_204_0 0 rfl rfl) ?_
     refine tk 8 rfl (by exact y_load1 1 rfl one_202 rfl (Pts.vis rfl)) ?_
     refine tpp 9 ?_
     refine tp 10 rfl (by exact y_fieldP fl_231_0 0 rfl rfl) ?_
     refine tk 11 rfl (by exact y_load1 0 rfl one_136 rfl (Pts.vis rfl)) ?_
     refine tpp 12 ?_
     refine tp 13 rfl (by exact y_arith ((sizeN d / 2 - 1 : Nat) : Int) rfl (wrapNsub (by omega))) ?_
     refine tpp 14 ?_
     refine tp 15 rfl (by exact y_arith ((sizeN d / 2 - 1 : Nat) : Int) rfl (wrapNsub (by omega))) ?_
     refine tp 16 rfl (by exact y_slice sl_136 rfl 0 (sizeN d / 2 - 1) (sizeN d / 2 - 1) rfl ⟨_, _, rfl, rfl⟩ ⟨_, _, rfl, rfl⟩ (by simp) (by omega) (by omega) (by omega)) ?_
     refine tp 17 rfl (by exact y_fieldP fl_231_2 2 rfl rfl) ?_
     refine tk 18 rfl (by exact y_load1 0 rfl one_72 rfl (Pts.vis rfl)) ?_
     refine tpp 19 ?_
     refine tpp 20 ?_
     refine tp 21 rfl (by exact y_slice sl_72 rfl 0 (sizeN d / 2) (sizeN d / 2) rfl ⟨_, _, rfl, rfl⟩ ⟨_, _, rfl, rfl⟩ (by simp) (by omega) (by omega) (by omega)) ?_
     refine tk 22 rfl (by exact y_elem 2 rfl (Sl.vis) i rfl (getLt hh1) sl_202 rfl rfl) ?_
     refine tp 23 rfl (by exact y_fieldE fl_231_0 0 rfl rfl) ?_
     refine va_ready [24] (by kernel_rfl) rfl ?_
     refine vo_cons rfl (fun hC0 => ?_) ?_
     ·skip
      refine vc_storeE 1 rfl [_] ⟨h.k.cut 1 0 (sizeN d / 2 - 1) (sizeN d / 2 - 1), h.n, h.c⟩ rfl rfl rfl sz_136 rfl hh1 (Nat.le_of_ble_eq_true rfl) rfl ?_
      refine vc_nil ?_
      refine vc_then ?_
      refine va_gone hC0 (by kernel_rfl) ?_
      clear hC0
      refine va_ready [25] (by kernel_rfl) rfl ?_
      refine vo_cons rfl (fun hC0 => ?_) ?_
      ·skip
       refine vc_y (y_elem 1 rfl (Sl.vis) i rfl (by rw [List.length_set]; exact getLt hh1) sl_202 rfl rfl) rfl ?_
       refine vc_nil ?_
       refine vc_then ?_
       refine va_gone hC0 (by kernel_rfl) ?_
       clear hC0
       refine va_ready [26] (by kernel_rfl) rfl ?_
       refine vo_cons rfl (fun hC0 => ?_) ?_
       ·skip
        refine vc_y (y_fieldE fl_231_2 2 rfl rfl) rfl ?_
        refine vc_nil ?_
        refine vc_then ?_
        refine va_gone hC0 (by kernel_rfl) ?_
        clear hC0
        refine va_ready [27] (by kernel_rfl) rfl ?_
        refine vo_cons rfl (fun hC0 => ?_) ?_
        ·skip
         refine vc_storeE 1 rfl [_] ⟨h.k.cut 1 0 (sizeN d / 2 - 1) (sizeN d / 2 - 1), h.n, h.c.cut 1 0 (sizeN d / 2) (sizeN d / 2)⟩ rfl rfl rfl sz_72 rfl (List.getElem?_set_self (getLt hh1)) (Nat.le_of_ble_eq_true rfl) rfl ?_
         refine vc_nil ?_
         refine vc_then ?_
         refine va_gone hC0 (by kernel_rfl) ?_
         clear hC0
         refine va_done (by kernel_rfl) ?_
         refine vc_then ?_
         refine vc_seq ?_
         refine vc_draw (by kernel_rfl) _ none [4, 3] rfl ?_
         refine tpp 0 ?_
         refine tp 1 rfl (by exact y_fieldP fl_231_0 0 rfl rfl) ?_
         refine tk 2 rfl (by exact y_load1 0 rfl one_136 rfl (Pts.vis rfl)) ?_
         refine tpp 3 ?_
         refine tp 4 rfl (by exact y_arith ((sizeN d / 2 - 1 : Nat) : Int) rfl (wrapNsub (by omega))) ?_
         refine tk 5 rfl (by exact y_elem 1 rfl (Nodes.visK hh1 hd1) (sizeN d / 2 - 1) rfl (getLt hs0) sl_136 rfl rfl) ?_
         refine tk 6 rfl (by exact y_load1 1 rfl one_9 rfl (Rd.vis1 (Nodes.visK hh1 hd1) hs0 rfl)) ?_
         refine tpp 7 ?_
         refine tpp 8 ?_
         refine va_done (by kernel_rfl) ?_
         refine vc_then ?_
         refine vc_ret ?_
         exact vc_end2 Tryz.results167 rfl rfl _ (ent_at [0, 0, 0, 0] rfl (ent_cons (ent_cons (ent_cons (ent_head (B := Nodes ((hs1.set i ⟨h.k.cut 1 0 (sizeN d / 2 - 1) (sizeN d / 2 - 1), h.n, h.c⟩).set i ⟨h.k.cut 1 0 (sizeN d / 2 - 1) (sizeN d / 2 - 1), h.n, h.c.cut 1 0 (sizeN d / 2) (sizeN d / 2)⟩) (l1.set i (cutL d))) (by rw [List.set_set, hcL]; exact Nodes.turn hh1 hd1 (Ent.sep (Sl.first (by omega) (by omega)) (Ent.sep Ent.rfl (Sl.first (by omega) (by omega)))))))))) ⟨hl1, hf1, _, by simp [ln1], rfl, rfl⟩
        exact vo_nil
       exact vo_nil
      exact vo_nil
     exact vo_nil
    exact vo_nil
   exact vo_nil
  exact vo_nil
end Go.Proofs.YtcpbibdbahfgaaaGreat
