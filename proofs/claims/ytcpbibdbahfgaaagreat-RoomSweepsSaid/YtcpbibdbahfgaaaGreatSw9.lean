/-
 Rooms: a version put, what is asked.
-/
import Derived.Test.YtcpbibdbahfgaaaGreatSw8
set_option linter.unusedVariables false
set_option linter.unusedSimpArgs false
set_option autoImplicit false
set_option maxHeartbeats 4000000
namespace Go.Proofs.YtcpbibdbahfgaaaGreat
open Go.Eng
namespace FRoom2
theorem ag_135 : TyAgg Tryz.prog 135 5 := ⟨⟨_, Tryz.underlying135, rfl⟩, by kernel_rfl⟩
theorem ca_76 : Callable Tryz.prog 76 := ⟨_, _, Tryz.func76, rfl, rfl⟩
theorem ca_123 : Callable Tryz.prog 123 := ⟨_, _, Tryz.func123, rfl, rfl⟩
theorem ca_78 : Callable Tryz.prog 78 := ⟨_, _, Tryz.func78, rfl, rfl⟩
theorem ep_28 : Tryz.prog.underlying 28 = some (.pointer (Tryz.prog.pointee 28)) := by kernel_rfl
theorem fl_132_1 : Fld Tryz.prog 132 1 4 := ⟨_, _, 0, Tryz.underlying132, rfl, rfl, by kernel_rfl⟩
theorem one_128 : TyOne Tryz.prog 128 := ⟨⟨_, Tryz.underlying128, rfl⟩, by kernel_rfl⟩
theorem ca_74 : Callable Tryz.prog 74 := ⟨_, _, Tryz.func74, rfl, rfl⟩
theorem ca_80 : Callable Tryz.prog 80 := ⟨_, _, Tryz.func80, rfl, rfl⟩
theorem fl_132_5 : Fld Tryz.prog 132 5 8 := ⟨_, _, 0, Tryz.underlying132, rfl, rfl, by kernel_rfl⟩
theorem one_3 : TyOne Tryz.prog 3 := ⟨⟨_, Tryz.underlying3, rfl⟩, by kernel_rfl⟩
theorem fl_132_6 : Fld Tryz.prog 132 6 9 := ⟨_, _, 0, Tryz.underlying132, rfl, rfl, by kernel_rfl⟩
theorem fl_132_7 : Fld Tryz.prog 132 7 10 := ⟨_, _, 0, Tryz.underlying132, rfl, rfl, by kernel_rfl⟩
theorem ca_95 : Callable Tryz.prog 95 := ⟨_, _, Tryz.func95, rfl, rfl⟩
theorem ze_45 : (Tryz.prog.info? 45).map (·.zero) = some (some (.agg #[.bool false, .string ⟨#[]⟩, .int .u64 0])) := by kernel_rfl
theorem ca_81 : Callable Tryz.prog 81 := ⟨_, _, Tryz.func81, rfl, rfl⟩
theorem ze_135 : (Tryz.prog.info? 135).map (·.zero) = some (some (.agg #[.int .i64 0, .bool false, .bool false, .string ⟨#[]⟩, .int .u64 0])) := by kernel_rfl
theorem sz_135 : (Tryz.prog.info? 135).map (·.size) = some 5 := by kernel_rfl
theorem fl_135_2 : Fld Tryz.prog 135 2 2 := ⟨_, _, 2, Tryz.underlying135, rfl, rfl, by kernel_rfl⟩
theorem ag_45 : TyAgg Tryz.prog 45 3 := ⟨⟨_, Tryz.underlying45, rfl⟩, by kernel_rfl⟩
theorem sz_45 : (Tryz.prog.info? 45).map (·.size) = some 3 := by kernel_rfl
theorem fl_132_3 : Fld Tryz.prog 132 3 6 := ⟨_, _, 0, Tryz.underlying132, rfl, rfl, by kernel_rfl⟩
theorem one_130 : TyOne Tryz.prog 130 := ⟨⟨_, Tryz.underlying130, rfl⟩, by kernel_rfl⟩
theorem sl_130 : TySl Tryz.prog 130 138 1 := ⟨Tryz.underlying130, by kernel_rfl⟩
theorem one_138 : TyOne Tryz.prog 138 := ⟨⟨_, Tryz.underlying138, rfl⟩, by kernel_rfl⟩
theorem fl_132_2 : Fld Tryz.prog 132 2 5 := ⟨_, _, 0, Tryz.underlying132, rfl, rfl, by kernel_rfl⟩
theorem one_129 : TyOne Tryz.prog 129 := ⟨⟨_, Tryz.underlying129, rfl⟩, by kernel_rfl⟩
theorem ca_82 : Callable Tryz.prog 82 := ⟨_, _, Tryz.func82, rfl, rfl⟩
theorem bu_45_n   (w : World) : (Instr.build 45 #[]).run Tryz.prog w = .ok (.agg #[.bool false, .string ⟨#[]⟩, .int .u64 0]) w := by
 have hz := @ze_45
 exact Go.Eng.run_build (pl := [(0, 1), (1, 1), (2, 1)]) hz Tryz.underlying45 (by kernel_rfl) rfl (by simp [Instr.fill, cells_agg]) w
theorem ca_83 : Callable Tryz.prog 83 := ⟨_, _, Tryz.func83, rfl, rfl⟩
theorem ca_138 : Callable Tryz.prog 138 := ⟨_, _, Tryz.func138, rfl, rfl⟩
end FRoom2
open FRoom2
theorem vc_room {ι : Io} {F : HP} {n : Nat} {ρ : List (Nat × Value)} {l : List HP} {K : Act → World → Prop} (i : Nat) {b : Nat} {X : RmX} (hA : nth l i = some (RoomC b X)) (g : ∀ I, RmRel X I → VC ι F n K ρ (RmO b X I ++ del l i)) : VC ι F n K ρ l := fun a w he hw => by
 have h1 : Holds ι w (sep (RoomC b X) (sep (seps (del l i)) F)) := (hw.ent (Ent.sep (Ent.out hA) Ent.rfl)).ent Ent.assoc
 obtain ⟨g1, g2, r, x, s, x1, x2, hj, ⟨I, y1, y2, hj2, hrel, hy⟩, hf⟩ := h1
 refine g I hrel a w he ?_
 have h2 : Holds ι w (sep (sep (lift (RmRel X I)) (seps (RmO b X I))) (sep (seps (del l i)) F)) := ⟨g1, g2, r, x, s, x1, x2, hj, ⟨y1, y2, hj2, hrel, hy⟩, hf⟩
 exact ((h2.ent (Ent.sep Ent.right Ent.rfl)).ent Ent.assoc').ent (Ent.sep Ent.append' Ent.rfl)
def mPut (M : Mp) (key : ByteArray) (x : Ver) : Mp := if fnd (ks M) key then put1 M key (chainM M key ++ [x]) else ins M key [x]
theorem chainM_none {M : Mp} {key : ByteArray} (h : fnd (ks M) key = false) : chainM M key = [] := by simp [chainM, Eng.look, h]
def valTup (o : Option Ver) : Value := .tuple #[.agg (o.getD ver0).val.cs.toArray, .bool o.isSome]
def firstLive : Mp → Int → Option (ByteArray × Ver)
 | [], _ => none
 | p :: r, s => match verAt p.2 s with
  | some v => some (p.1, v)
  | none => firstLive r s
def nextP (M : Mp) (key : ByteArray) (above : Bool) : Nat := if fnd (ks M) key && above then lb (ks M) key + 1 else lb (ks M) key
def liveFrom (M : Mp) (key : ByteArray) (above : Bool) (seq : Int) : Option (ByteArray × Ver) := firstLive (M.drop (nextP M key above)) seq
def keyOf (o : Option (ByteArray × Ver)) : ByteArray := match o with | some p => p.1 | none => ⟨#[]⟩
def valOf (o : Option (ByteArray × Ver)) : Val := match o with | some p => p.2.val | none => val0
def rowTup (o : Option (ByteArray × Ver)) : Value := .tuple #[.string (keyOf o), .agg (valOf o).cs.toArray, .bool o.isSome]
section
variable {X : RmX} {I : RmI}
theorem RmRel.at (rel : RmRel X I) {p : Nat} {q : ByteArray × Int} (h : I.t[p]? = some q) : ∃ c, X.M[p]? = some (q.1, c) ∧ I.cs[q.2.toNat]? = some c ∧ 0 ≤ q.2 ∧ q.2.toNat < I.cs.length := by
 have hm := List.mem_of_getElem? h
 have h1 := rel.pos q hm
 have h2 : q.2.toNat < I.cs.length := (nodup_range_perm rel.perm).2.1 _ (List.mem_append_left _ (List.mem_map.2 ⟨q, hm, rfl⟩))
 refine ⟨I.cs.getD q.2.toNat [], ?_, ?_, h1, h2⟩
 ·rw [rel.m, List.getElem?_map, h]; rfl
 ·rw [List.getD_eq_getElem?_getD, List.getElem?_eq_getElem h2]; rfl
theorem RmRel.len (rel : RmRel X I) : I.t.length = X.M.length := by rw [rel.m]; simp
theorem lb_at {l : List ByteArray} (hr : Rise l) {p : Nat} {k : ByteArray} (h : l[p]? = some k) : lb l k = p ∧ fnd l k = true := by
 have hp := getLt h
 have hk : l[p] = k := by rw [List.getElem?_eq_getElem hp] at h; exact Option.some.inj h
 have h1 : ¬ p < lb l k := fun hq => by
  have := (lb_iff hr k hp).2 hq
  rw [hk, sLt_irrefl] at this; cases this
 have h2 : ¬ lb l k < p := fun hq => by
  have h3 : sLt l[lb l k] l[p] = true := by
   have h4 := hr
   rw [← List.take_append_drop (lb l k + 1) l] at h4
   refine (rise_append.1 h4).2.2 _ ?_ _ ?_
   ·rw [List.mem_take_iff_getElem]; exact ⟨lb l k, by omega, rfl⟩
   ·rw [List.mem_drop_iff_getElem]; exact ⟨p - (lb l k + 1), by omega, by congr 1; omega⟩
  rw [hk] at h3
  have := (lb_iff hr k (show lb l k < l.length by omega)).1 h3
  omega
 have h3 : lb l k = p := by omega
 exact ⟨h3, by simp [fnd, h3, h, sEq_self]⟩
theorem RmRel.next (rel : RmRel X I) (ok : X.ok) {p : Nat} {q : ByteArray × Int} (h : I.t[p]? = some q) : nxt I.t q.1 true = I.t[p + 1]? := by
 have hr : Rise (Eng.ks I.t) := rel.ks ▸ ok.rise
 have hk : (Eng.ks I.t)[p]? = some q.1 := by unfold Eng.ks; rw [List.getElem?_map, h]; rfl
 obtain ⟨h1, h2⟩ := lb_at hr hk
 simp [nxt, h1, h2]
theorem RmRel.nextP (rel : RmRel X I) (key : ByteArray) (ab : Bool) : nxt I.t key ab = I.t[Proofs.YtcpbibdbahfgaaaGreat.nextP X.M key ab]? := by
 unfold nxt Proofs.YtcpbibdbahfgaaaGreat.nextP
 rw [rel.ks]
end
theorem firstLive_at {M : Mp} {p : Nat} {q : ByteArray × List Ver} (h : M[p]? = some q) (s : Int) : firstLive (M.drop p) s = match verAt q.2 s with | some v => some (q.1, v) | none => firstLive (M.drop (p + 1)) s := by
 have hp := getLt h
 have hq : M[p] = q := by rw [List.getElem?_eq_getElem hp] at h; exact Option.some.inj h
 rw [List.drop_eq_getElem_cons hp, hq]; rfl
theorem firstLive_none {M : Mp} {p : Nat} (h : M[p]? = none) (s : Int) : firstLive (M.drop p) s = none := by
 rw [List.drop_eq_nil_of_le (by simpa using h)]; rfl
theorem rput_old {b : Nat} {X : RmX} {I : RmI} (rel : RmRel X I) (ok : X.ok) {key : ByteArray} (hk : key.size ≤ 32) (x : Ver) (hR : chainRight (chainM X.M key ++ [x]) = true) (hfk : fnd (ks X.M) key = true) :
  Does Tryz.prog 73 [.pointer (some ⟨b, 0, none⟩), .string key, .agg #[.int .i64 x.seq, .bool x.gone, .bool x.val.num, .string x.val.text, .int .u64 x.val.bits]] (RmO b X I) (fun v l => v = .int .i64 0 ∧ l = [RoomC b ⟨X.label, X.ring, X.quota, X.most, X.R, mPut X.M key x⟩]) := by
 refine spec_of Tryz.func73 rfl Tryz.ntmps73 Tryz.results73 _ (by simp) fun ι F => ?_
 have hvo := rel.vis key
 have hch := ok.chain key
 refine vc_seq ?_
 refine vc_region ?_
 refine vc_box [_, _, _, _, _] rfl rfl rfl (fun b5 => ?_)
 refine vp ?_
 refine vc_nil ?_
 refine vc_then ?_
 refine vc_seq ?_
 refine vc_draw (by kernel_rfl) _ none [0] rfl ?_
 refine tpp 0 ?_
 refine tpp 1 ?_
 refine tk 3 rfl (by exact y_loadA 0 rfl (cs := [_, _, _, _, _]) ag_135 rfl (Pts.visA rfl)) ?_
 refine va_ready [2] (by kernel_rfl) rfl ?_
 refine vo_cons rfl (fun hC0 => ?_) ?_
 ·skip
  refine vc_callv ca_76 (us := []) (vs := []) rfl [_, _] rfl [1, 1, 1, 1, 1, 1, 1] rfl (rchain0 rel key) rfl ?_
  rintro _ _ ⟨rfl, rfl⟩
  refine vc_nil ?_
  refine vc_then ?_
  refine va_kept hC0 [7] rfl ?_
  clear hC0
  refine va_ready [4] (by kernel_rfl) rfl ?_
  refine vo_cons rfl (fun hC0 => ?_) ?_
  ·skip
   refine vc_callv ca_123 (us := []) (vs := []) rfl [_, _] rfl [6] rfl (Add_spec hvo (by omega) (by omega) x hR) rfl ?_
   rintro _ _ ⟨g, rfl, rfl⟩
   refine vc_nil ?_
   refine vc_then ?_
   refine va_kept hC0 [8] rfl ?_
   clear hC0
   refine tpp 5 ?_
   refine tpp 6 ?_
   refine tpp 7 ?_
   refine tpp 8 ?_
   refine tpp 9 ?_
   refine va_done (by kernel_rfl) ?_
   refine vc_then ?_
   refine vc_seq ?_
   refine vc_seq ?_
   refine vc_region ?_
   refine vp ?_
   refine vp ?_
   refine vc_nil ?_
   refine vc_then ?_
   first | refine vc_condP rfl (fun c18 => ?_) (fun c18 => ?_) | refine vc_condN rfl (fun c18 => ?_) (fun c18 => ?_) | refine vc_cond rfl (fun c18 => ?_) (fun c18 => ?_)
   ·skip
    simp at c18
   ·skip
    refine vc_skip ?_
    refine vc_then ?_
    refine vc_seq ?_
    refine vc_region ?_
    refine vc_turn 0 rfl (RoSl eVer g (chainM X.M key ++ [x])) Sl.share ?_
    iterate 3 refine vp ?_
    refine vc_callv ca_78 (us := []) (vs := []) rfl [_, _, _] rfl [2, 2, 2, 2, 2, 2, 1, 0] rfl (lay_put rel ok hk (by simp; omega) hfk (by simp)) rfl ?_
    rintro _ _ ⟨rfl, rfl⟩
    refine vc_nil ?_
    refine vc_then ?_
    refine vc_seq ?_
    refine vc_region ?_
    refine vp ?_
    refine vc_nil ?_
    refine vc_then ?_
    refine vc_ret ?_
    exact vc_end1 Tryz.results73 rfl _ (ent_pick [0] rfl) ⟨rfl, by simp only [mPut, hfk, if_true]⟩
  exact vo_nil
 exact vo_nil
theorem rput_new {b : Nat} {X : RmX} {I : RmI} (rel : RmRel X I) (ok : X.ok) {key : ByteArray} (hk : key.size ≤ 32) (x : Ver) (hR : chainRight (chainM X.M key ++ [x]) = true) (hfk : fnd (ks X.M) key = false) (hlt : X.M.length < 100000) :
  Does Tryz.prog 73 [.pointer (some ⟨b, 0, none⟩), .string key, .agg #[.int .i64 x.seq, .bool x.gone, .bool x.val.num, .string x.val.text, .int .u64 x.val.bits]] (RmO b X I) (fun v l => v = .int .i64 0 ∧ l = [RoomC b ⟨X.label, X.ring, X.quota, X.most, X.R, mPut X.M key x⟩]) := by
 refine spec_of Tryz.func73 rfl Tryz.ntmps73 Tryz.results73 _ (by simp) fun ι F => ?_
 have hvo := rel.vis key
 have hch := ok.chain key
 have hcn := chainM_none hfk
 refine vc_seq ?_
 refine vc_region ?_
 refine vc_box [_, _, _, _, _] rfl rfl rfl (fun b5 => ?_)
 refine vp ?_
 refine vc_nil ?_
 refine vc_then ?_
 refine vc_seq ?_
 refine vc_draw (by kernel_rfl) _ none [0] rfl ?_
 refine tpp 0 ?_
 refine tpp 1 ?_
 refine tk 3 rfl (by exact y_loadA 0 rfl (cs := [_, _, _, _, _]) ag_135 rfl (Pts.visA rfl)) ?_
 refine va_ready [2] (by kernel_rfl) rfl ?_
 refine vo_cons rfl (fun hC0 => ?_) ?_
 ·skip
  refine vc_callv ca_76 (us := []) (vs := []) rfl [_, _] rfl [1, 1, 1, 1, 1, 1, 1] rfl (rchain0 rel key) rfl ?_
  rintro _ _ ⟨rfl, rfl⟩
  refine vc_nil ?_
  refine vc_then ?_
  refine va_kept hC0 [7] rfl ?_
  clear hC0
  refine va_ready [4] (by kernel_rfl) rfl ?_
  refine vo_cons rfl (fun hC0 => ?_) ?_
  ·skip
   refine vc_callv ca_123 (us := []) (vs := []) rfl [_, _] rfl [6] rfl (Add_spec hvo (by omega) (by omega) x hR) rfl ?_
   rintro _ _ ⟨g, rfl, rfl⟩
   refine vc_nil ?_
   refine vc_then ?_
   refine va_kept hC0 [8] rfl ?_
   clear hC0
   refine tpp 5 ?_
   refine tpp 6 ?_
   refine tpp 7 ?_
   refine tpp 8 ?_
   refine tpp 9 ?_
   refine va_done (by kernel_rfl) ?_
   refine vc_then ?_
   refine vc_seq ?_
   refine vc_seq ?_
   refine vc_region ?_
   refine vp ?_
   refine vp ?_
   refine vc_nil ?_
   refine vc_then ?_
   first | refine vc_condP rfl (fun c18 => ?_) (fun c18 => ?_) | refine vc_condN rfl (fun c18 => ?_) (fun c18 => ?_) | refine vc_cond rfl (fun c18 => ?_) (fun c18 => ?_)
   ·skip
    simp at c18
   ·skip
    refine vc_skip ?_
    refine vc_then ?_
    refine vc_seq ?_
    refine vc_region ?_
    refine vc_turn 0 rfl (RoSl eVer g (chainM X.M key ++ [x])) Sl.share ?_
    iterate 3 refine vp ?_
    refine vc_callv ca_78 (us := []) (vs := []) rfl [_, _, _] rfl [2, 2, 2, 2, 2, 2, 1, 0] rfl (lay_ins rel ok hk (by simp; omega) hfk (by simp) hlt) rfl ?_
    rintro _ _ ⟨rfl, rfl⟩
    refine vc_nil ?_
    refine vc_then ?_
    refine vc_seq ?_
    refine vc_region ?_
    refine vp ?_
    refine vc_nil ?_
    refine vc_then ?_
    refine vc_ret ?_
    exact vc_end1 Tryz.results73 rfl _ (ent_pick [0] rfl) ⟨rfl, by simp only [mPut, hfk, hcn, List.nil_append]; rfl⟩
  exact vo_nil
 exact vo_nil
theorem rput {b : Nat} {X : RmX} {I : RmI} (rel : RmRel X I) (ok : X.ok) {key : ByteArray} (hk : key.size ≤ 32) (x : Ver) (hR : chainRight (chainM X.M key ++ [x]) = true) (hlt : X.M.length < 100000) :
  Does Tryz.prog 73 [.pointer (some ⟨b, 0, none⟩), .string key, .agg #[.int .i64 x.seq, .bool x.gone, .bool x.val.num, .string x.val.text, .int .u64 x.val.bits]] (RmO b X I) (fun v l => v = .int .i64 0 ∧ l = [RoomC b ⟨X.label, X.ring, X.quota, X.most, X.R, mPut X.M key x⟩]) := by
 cases hfk : fnd (ks X.M) key with
 | true => exact rput_old rel ok hk x hR hfk
 | false => exact rput_new rel ok hk x hR hfk hlt
theorem rseq0 {b : Nat} {X : RmX} {I : RmI} (rel : RmRel X I) (ok : X.ok) : Does Tryz.prog 16 [.pointer (some ⟨b, 0, none⟩)] (RmO b X I) (fun v l => v = .int .i64 X.R.seq ∧ l = RmO b X I) := by
 refine spec_of Tryz.func16 rfl Tryz.ntmps16 Tryz.results16 _ (by simp) fun ι F => ?_
 refine vc_seq ?_
 refine vc_region ?_
 refine vp ?_
 refine vc_nil ?_
 refine vc_then ?_
 refine vc_seq ?_
 refine vc_seq ?_
 refine vc_region ?_
 refine vp ?_
 refine vc_y (y_eqNil ep_28 rfl rfl) rfl ?_
 refine vc_nil ?_
 refine vc_then ?_
 refine vc_condF rfl ?_
 refine vc_skip ?_
 refine vc_then ?_
 refine vc_seq ?_
 refine vc_region ?_
 refine vp ?_
 refine vp ?_
 refine vc_y (y_fieldP fl_132_1 4 rfl rfl) rfl ?_
 refine vc_y (y_load1 0 rfl one_128 rfl (Pts.vis rfl)) rfl ?_
 refine vc_callv ca_74 (us := []) (vs := []) rfl [_] rfl [2] rfl (ring_seq) rfl ?_
 rintro _ _ ⟨rfl, rfl⟩
 refine vp ?_
 refine vc_nil ?_
 refine vc_then ?_
 refine vc_ret ?_
 exact vc_end1 Tryz.results16 rfl _ (ent_pick [1, 1, 0, 0, 0, 0, 0] rfl) ⟨rfl, rfl⟩
theorem rfloor0 {b : Nat} {X : RmX} {I : RmI} (rel : RmRel X I) (ok : X.ok) : Does Tryz.prog 18 [.pointer (some ⟨b, 0, none⟩)] (RmO b X I) (fun v l => v = .int .i64 X.R.floor ∧ l = RmO b X I) := by
 refine spec_of Tryz.func18 rfl Tryz.ntmps18 Tryz.results18 _ (by simp) fun ι F => ?_
 refine vc_seq ?_
 refine vc_region ?_
 refine vp ?_
 refine vc_nil ?_
 refine vc_then ?_
 refine vc_seq ?_
 refine vc_seq ?_
 refine vc_region ?_
 refine vp ?_
 refine vc_y (y_eqNil ep_28 rfl rfl) rfl ?_
 refine vc_nil ?_
 refine vc_then ?_
 refine vc_condF rfl ?_
 refine vc_skip ?_
 refine vc_then ?_
 refine vc_seq ?_
 refine vc_region ?_
 refine vp ?_
 refine vp ?_
 refine vc_y (y_fieldP fl_132_1 4 rfl rfl) rfl ?_
 refine vc_y (y_load1 0 rfl one_128 rfl (Pts.vis rfl)) rfl ?_
 refine vc_callv ca_80 (us := []) (vs := []) rfl [_] rfl [2] rfl (ring_floor ok.rg) rfl ?_
 rintro _ _ ⟨rfl, rfl⟩
 refine vp ?_
 refine vc_nil ?_
 refine vc_then ?_
 refine vc_ret ?_
 exact vc_end1 Tryz.results18 rfl _ (ent_pick [1, 1, 0, 0, 0, 0, 0] rfl) ⟨rfl, rfl⟩
theorem rlive0 {b : Nat} {X : RmX} {I : RmI} (rel : RmRel X I) (ok : X.ok) : Does Tryz.prog 22 [.pointer (some ⟨b, 0, none⟩)] (RmO b X I) (fun v l => v = .int .i64 (liveM X.M) ∧ l = RmO b X I) := by
 refine spec_of Tryz.func22 rfl Tryz.ntmps22 Tryz.results22 _ (by simp) fun ι F => ?_
 refine vc_seq ?_
 refine vc_region ?_
 refine vp ?_
 refine vc_nil ?_
 refine vc_then ?_
 refine vc_seq ?_
 refine vc_seq ?_
 refine vc_region ?_
 refine vp ?_
 refine vc_y (y_eqNil ep_28 rfl rfl) rfl ?_
 refine vc_nil ?_
 refine vc_then ?_
 refine vc_condF rfl ?_
 refine vc_skip ?_
 refine vc_then ?_
 refine vc_seq ?_
 refine vc_region ?_
 refine vp ?_
 refine vp ?_
 refine vc_y (y_fieldP fl_132_5 8 rfl rfl) rfl ?_
 refine vc_y (y_load1 0 rfl one_3 rfl (Pts.vis rfl)) rfl ?_
 refine vp ?_
 refine vc_nil ?_
 refine vc_then ?_
 refine vc_ret ?_
 exact vc_end1 Tryz.results22 rfl _ (ent_pick [0, 0, 0, 0, 0, 0, 0] rfl) ⟨rfl, rfl⟩
theorem rkeys0 {b : Nat} {X : RmX} {I : RmI} (rel : RmRel X I) (ok : X.ok) : Does Tryz.prog 23 [.pointer (some ⟨b, 0, none⟩)] (RmO b X I) (fun v l => v = .int .i64 (countM X.M) ∧ l = RmO b X I) := by
 refine spec_of Tryz.func23 rfl Tryz.ntmps23 Tryz.results23 _ (by simp) fun ι F => ?_
 refine vc_seq ?_
 refine vc_region ?_
 refine vp ?_
 refine vc_nil ?_
 refine vc_then ?_
 refine vc_seq ?_
 refine vc_seq ?_
 refine vc_region ?_
 refine vp ?_
 refine vc_y (y_eqNil ep_28 rfl rfl) rfl ?_
 refine vc_nil ?_
 refine vc_then ?_
 refine vc_condF rfl ?_
 refine vc_skip ?_
 refine vc_then ?_
 refine vc_seq ?_
 refine vc_region ?_
 refine vp ?_
 refine vp ?_
 refine vc_y (y_fieldP fl_132_6 9 rfl rfl) rfl ?_
 refine vc_y (y_load1 0 rfl one_3 rfl (Pts.vis rfl)) rfl ?_
 refine vp ?_
 refine vc_nil ?_
 refine vc_then ?_
 refine vc_ret ?_
 exact vc_end1 Tryz.results23 rfl _ (ent_pick [0, 0, 0, 0, 0, 0, 0] rfl) ⟨rfl, rfl⟩
theorem rvers0 {b : Nat} {X : RmX} {I : RmI} (rel : RmRel X I) (ok : X.ok) : Does Tryz.prog 24 [.pointer (some ⟨b, 0, none⟩)] (RmO b X I) (fun v l => v = .int .i64 (versM X.M) ∧ l = RmO b X I) := by
 refine spec_of Tryz.func24 rfl Tryz.ntmps24 Tryz.results24 _ (by simp) fun ι F => ?_
 refine vc_seq ?_
 refine vc_region ?_
 refine vp ?_
 refine vc_nil ?_
 refine vc_then ?_
 refine vc_seq ?_
 refine vc_seq ?_
 refine vc_region ?_
 refine vp ?_
 refine vc_y (y_eqNil ep_28 rfl rfl) rfl ?_
 refine vc_nil ?_
 refine vc_then ?_
 refine vc_condF rfl ?_
 refine vc_skip ?_
 refine vc_then ?_
 refine vc_seq ?_
 refine vc_region ?_
 refine vp ?_
 refine vp ?_
 refine vc_y (y_fieldP fl_132_7 10 rfl rfl) rfl ?_
 refine vc_y (y_load1 0 rfl one_3 rfl (Pts.vis rfl)) rfl ?_
 refine vp ?_
 refine vc_nil ?_
 refine vc_then ?_
 refine vc_ret ?_
 exact vc_end1 Tryz.results24 rfl _ (ent_pick [0, 0, 0, 0, 0, 0, 0] rfl) ⟨rfl, rfl⟩
theorem rasof0 {b : Nat} {X : RmX} {I : RmI} (rel : RmRel X I) (ok : X.ok) (s : Int) : Does Tryz.prog 32 [.pointer (some ⟨b, 0, none⟩), .int .u64 s] (RmO b X I) (fun v l => v = .tuple #[.int .i64 (asOfR X.R s).1, .int .i64 (asOfR X.R s).2] ∧ l = RmO b X I) := by
 refine spec_of Tryz.func32 rfl Tryz.ntmps32 Tryz.results32 _ (by simp) fun ι F => ?_
 refine vc_seq ?_
 refine vc_region ?_
 refine vp ?_
 refine vp ?_
 refine vc_nil ?_
 refine vc_then ?_
 refine vc_seq ?_
 refine vc_seq ?_
 refine vc_region ?_
 refine vp ?_
 refine vc_y (y_eqNil ep_28 rfl rfl) rfl ?_
 refine vc_nil ?_
 refine vc_then ?_
 refine vc_condF rfl ?_
 refine vc_skip ?_
 refine vc_then ?_
 refine vc_seq ?_
 refine vc_region ?_
 refine vp ?_
 refine vp ?_
 refine vc_y (y_fieldP fl_132_1 4 rfl rfl) rfl ?_
 refine vc_y (y_load1 0 rfl one_128 rfl (Pts.vis rfl)) rfl ?_
 refine vp ?_
 refine vc_callv ca_95 (us := []) (vs := []) rfl [_, _] rfl [2] rfl (ring_asof ok.rg s) rfl ?_
 rintro _ _ ⟨rfl, rfl⟩
 iterate 4 refine vp ?_
 refine vc_nil ?_
 refine vc_then ?_
 refine vc_ret ?_
 exact vc_end2 Tryz.results32 rfl rfl _ (ent_pick [1, 1, 0, 0, 0, 0, 0] rfl) ⟨rfl, rfl⟩
theorem rget0 {b : Nat} {X : RmX} {I : RmI} (rel : RmRel X I) (ok : X.ok) (key : ByteArray) {seq : Int} (h2 : seq ≤ 9223372036854775807) : Does Tryz.prog 19 [.pointer (some ⟨b, 0, none⟩), .string key, .int .i64 seq] (RmO b X I) (fun v l => v = valTup (verAt (chainM X.M key) seq) ∧ l = RmO b X I) := by
 refine spec_of Tryz.func19 rfl Tryz.ntmps19 Tryz.results19 _ (by simp) fun ι F => ?_
 have hvo := rel.vis key
 have hch := ok.chain key
 refine vc_seq ?_
 refine vc_region ?_
 refine vc_alloc [.bool false, .string ⟨#[]⟩, .int .u64 0] ze_45 rfl rfl (fun b6 => ?_)
 refine vp ?_
 refine vc_nil ?_
 refine vc_then ?_
 refine vc_seq ?_
 refine vc_region ?_
 refine vp ?_
 refine vp ?_
 refine vc_callv ca_76 (us := []) (vs := []) rfl [_, _] rfl [1, 1, 1, 1, 1, 1, 1] rfl (rchain0 rel key) rfl ?_
 rintro _ _ ⟨rfl, rfl⟩
 refine vp ?_
 refine vc_callv ca_81 (us := []) (vs := []) rfl [_, _] rfl [6] rfl (At_spec hvo (by omega) h2) rfl ?_
 rintro _ _ ⟨rfl, rfl⟩
 iterate 3 refine vp ?_
 refine vc_alloc [.int .i64 0, .bool false, .bool false, .string ⟨#[]⟩, .int .u64 0] ze_135 rfl rfl (fun b8 => ?_)
 refine vc_storeP 0 rfl [_, _, _, _, _] [_, _, _, _, _] rfl rfl rfl sz_135 rfl rfl rfl ?_
 refine vp ?_
 refine vc_nil ?_
 refine vc_then ?_
 refine vc_seq ?_
 refine vc_region ?_
 refine vc_y (y_fieldP fl_135_2 2 rfl rfl) rfl ?_
 refine vc_y (y_loadA 0 rfl (cs := [_, _, _]) ag_45 rfl (Pts.visA rfl)) rfl ?_
 refine vp ?_
 refine vc_storeP 8 rfl [_, _, _] [_, _, _] rfl rfl rfl sz_45 rfl rfl rfl ?_
 refine vp ?_
 refine vc_nil ?_
 refine vc_then ?_
 refine vc_ret ?_
 exact vc_endR Tryz.results19 (resL_cons (res_a 8 rfl (cs := [_, _, _]) ag_45 rfl (Pts.visA rfl)) (resL_cons (res_t rfl) (resL_nil))) _ (ent_pick [2, 2, 2, 2, 2, 2, 1] rfl) ⟨rfl, rfl⟩
theorem rfrom0 {b : Nat} {X : RmX} {I : RmI} (rel : RmRel X I) (ok : X.ok) {seq : Int} (h2 : seq ≤ 9223372036854775807) (p : Nat) {k0 : ByteArray} {n0 : Int} {o0 : Bool} (e1 : k0 = resK I.t[p]?) (e2 : n0 = resN I.t[p]?) (e3 : o0 = resB I.t[p]?) : Does Tryz.prog 83 [.pointer (some ⟨b, 0, none⟩), .string k0, .int .i64 n0, .bool o0, .int .i64 seq] (RmO b X I) (fun v l => v = rowTup (firstLive (X.M.drop p) seq) ∧ l = RmO b X I) := by
 refine spec_of Tryz.func83 rfl Tryz.ntmps83 Tryz.results83 _ (by simp) fun ι F => ?_
 subst e1 e2 e3
 refine vc_seq ?_
 refine vc_region ?_
 refine vp ?_
 refine vc_alloc [.bool false, .string ⟨#[]⟩, .int .u64 0] ze_45 rfl rfl (fun b11 => ?_)
 refine vp ?_
 refine vc_nil ?_
 refine vc_then ?_
 refine vc_seq ?_
 refine vc_block ?_
 refine vc_loop (α := Nat) (fun xq_ => match xq_ with | j => [(0, .pointer (some ⟨b, 0, none⟩)), (1, .string (resK I.t[j]?)), (2, .int .i64 (resN I.t[j]?)), (3, .bool (resB I.t[j]?)), (4, .int .i64 seq), (11, .pointer (some ⟨b11, 0, none⟩))]) (fun xq_ => match xq_ with | j => Pts b11 [.bool false, .string ⟨#[]⟩, .int .u64 0] 45 :: RmO b X I) (fun xq_ => match xq_ with | j => X.M.length - j) (fun xq_ => match xq_ with | j => firstLive (X.M.drop p) seq = firstLive (X.M.drop j) seq) p rfl ⟨rfl, rfl, rfl, rfl, rfl, rfl, trivial⟩ (ent_pick [0, 0, 0, 0, 0, 0, 0, 0] rfl) ?_
 rintro j hok
 show VC _ _ _ _ [(0, .pointer (some ⟨b, 0, none⟩)), (1, .string (resK I.t[j]?)), (2, .int .i64 (resN I.t[j]?)), (3, .bool (resB I.t[j]?)), (4, .int .i64 seq), (11, .pointer (some ⟨b11, 0, none⟩))] (Pts b11 [.bool false, .string ⟨#[]⟩, .int .u64 0] 45 :: RmO b X I)
 refine vc_seq ?_
 refine vc_seq ?_
 refine vc_region ?_
 refine vp ?_
 refine vc_nil ?_
 refine vc_then ?_
 first | refine vc_condP rfl (fun c15 => ?_) (fun c15 => ?_) | refine vc_condN rfl (fun c15 => ?_) (fun c15 => ?_) | refine vc_cond rfl (fun c15 => ?_) (fun c15 => ?_)
 ·skip
  obtain ⟨q, hq⟩ : ∃ q, I.t[j]? = some q := by
   cases h0 : I.t[j]? with
   | none => rw [h0] at c15; cases c15
   | some q => exact ⟨q, rfl⟩
  obtain ⟨c, m1, m2, m3, m4⟩ := rel.at hq
  have hjl := getLt m1
  have m5 : q.2.toNat < I.hdrs.length := by rw [rel.hl]; exact m4
  have hvc := RoSl.vis.ent (AllRo.get (List.getElem?_eq_getElem m5) m2)
  have hpo := ok.ps _ (List.mem_of_getElem? m1)
  have hcl : c.length ≤ 1000000 := by have := hpo.len; have := ok.bg; simp only at *; omega
  have hfa := firstLive_at m1 seq
  rw [hq]
  refine vc_skip ?_
  refine vc_then ?_
  refine vc_block ?_
  refine vc_seq ?_
  refine vc_seq ?_
  refine vc_region ?_
  refine vp ?_
  refine vp ?_
  refine vc_y (y_fieldP fl_132_3 6 rfl rfl) rfl ?_
  refine vc_y (y_load1 1 rfl one_130 rfl (Pts.vis rfl)) rfl ?_
  refine vp ?_
  refine vc_y (y_elem 5 rfl (Sl.vis) q.2.toNat (Int.toNat_of_nonneg m3).symm m5 sl_130 rfl rfl) rfl ?_
  refine vc_y (y_load1 5 rfl one_138 rfl (Rd.vis1 (Sl.vis) (List.getElem?_eq_getElem m5) rfl)) rfl ?_
  refine vp ?_
  refine vc_callv ca_81 (us := []) (vs := []) rfl [_, _] rfl [7] rfl (At_spec hvc hcl h2) rfl ?_
  rintro _ _ ⟨rfl, rfl⟩
  iterate 3 refine vp ?_
  refine vc_alloc [.int .i64 0, .bool false, .bool false, .string ⟨#[]⟩, .int .u64 0] ze_135 rfl rfl (fun b13 => ?_)
  refine vc_storeP 0 rfl [_, _, _, _, _] [_, _, _, _, _] rfl rfl rfl sz_135 rfl rfl rfl ?_
  refine vp ?_
  refine vc_nil ?_
  refine vc_then ?_
  refine vc_seq ?_
  refine vc_region ?_
  refine vp ?_
  refine vc_nil ?_
  refine vc_then ?_
  first | refine vc_condP rfl (fun c28 => ?_) (fun c28 => ?_) | refine vc_condN rfl (fun c28 => ?_) (fun c28 => ?_) | refine vc_cond rfl (fun c28 => ?_) (fun c28 => ?_)
  ·skip
   obtain ⟨v, hv⟩ : ∃ v, verAt c seq = some v := by
    cases h0 : verAt c seq with
    | none => rw [h0] at c28; cases c28
    | some v => exact ⟨v, rfl⟩
   have hf1 : firstLive (X.M.drop j) seq = some (q.1, v) := by rw [hfa]; simp only [hv]
   rw [hv]
   refine vc_seq ?_
   refine vc_draw (by kernel_rfl) _ none [0] rfl ?_
   refine tpp 0 ?_
   refine tp 1 rfl (by exact y_fieldP fl_135_2 2 rfl rfl) ?_
   refine tk 2 rfl (by exact y_loadA 0 rfl (cs := [_, _, _]) ag_45 rfl (Pts.visA rfl)) ?_
   refine tpp 3 ?_
   refine va_ready [4] (by kernel_rfl) rfl ?_
   refine vo_cons rfl (fun hC0 => ?_) ?_
   ·skip
    refine vc_storeP 2 rfl [_, _, _] [_, _, _] rfl rfl rfl sz_45 rfl rfl rfl ?_
    refine vc_nil ?_
    refine vc_then ?_
    refine va_kept hC0 [0] rfl ?_
    clear hC0
    refine tpp 5 ?_
    refine va_done (by kernel_rfl) ?_
    refine vc_then ?_
    refine vc_ret ?_
    refine vc_thenRet ?_
    refine vc_inRet ?_
    refine vc_thenRet ?_
    refine vc_inRet ?_
    refine vc_thenRet ?_
    exact vc_endR Tryz.results83 (resL_cons (res_t rfl) (resL_cons (res_a 2 rfl (cs := [_, _, _]) ag_45 rfl (Pts.visA rfl)) (resL_cons (res_t rfl) (resL_nil)))) _ (ent_pick [3, 3, 3, 3, 3, 3, 1] rfl) ⟨by rw [hok, hf1]; rfl, rfl⟩
   exact vo_nil
  ·skip
   have hv : verAt c seq = none := by
    cases h0 : verAt c seq with
    | none => rfl
    | some v => rw [h0] at c28; cases c28
   have hf1 : firstLive (X.M.drop j) seq = firstLive (X.M.drop (j + 1)) seq := by rw [hfa]; simp only [hv]
   refine vc_skip ?_
   refine vc_then ?_
   refine vc_region ?_
   refine vp ?_
   refine vp ?_
   refine vc_y (y_fieldP fl_132_2 5 rfl rfl) rfl ?_
   refine vc_y (y_load1 3 rfl one_129 rfl (Pts.vis rfl)) rfl ?_
   refine vp ?_
   refine vc_callv ca_82 (us := []) (vs := []) rfl [_, _] rfl [6] rfl (Does.re (tree_after q.1) (show _ = resV I.t[j + 1]? by rw [rel.next ok hq])) rfl ?_
   rintro _ _ ⟨rfl, rfl⟩
   iterate 7 refine vp ?_
   refine vc_nil ?_
   refine vc_inNormal ?_
   refine vc_then ?_
   exact vc_again (x := j) (j + 1) (hok.trans hf1) (by show X.M.length - (j + 1) < X.M.length - j; omega) ⟨rfl, rfl, rfl, rfl, rfl, rfl, trivial⟩ (ent_pick [3, 3, 3, 3, 0, 2, 2, 1] rfl)
 ·skip
  have hq : I.t[j]? = none := by
   cases h0 : I.t[j]? with
   | none => rfl
   | some q => rw [h0] at c15; cases c15
  have hmn : X.M[j]? = none := by rw [rel.m, List.getElem?_map, hq]; rfl
  have hfn := firstLive_none hmn seq
  refine vc_exit ?_
  refine vc_thenExit ?_
  refine vc_thenExit ?_
  refine vc_inExit ?_
  refine vc_then ?_
  refine vc_seq ?_
  refine vc_region ?_
  refine vc_y (y_build [] [_, _, _] rfl (bu_45_n  )) rfl ?_
  refine vp ?_
  refine vc_storeP 0 rfl [_, _, _] [_, _, _] rfl rfl rfl sz_45 rfl rfl rfl ?_
  refine vp ?_
  refine vc_nil ?_
  refine vc_then ?_
  refine vc_ret ?_
  exact vc_endR Tryz.results83 (resL_cons (res_t rfl) (resL_cons (res_a 0 rfl (cs := [_, _, _]) ag_45 rfl (Pts.visA rfl)) (resL_cons (res_t rfl) (resL_nil)))) _ (ent_pick [1, 1, 1, 1, 1, 1, 1] rfl) ⟨by rw [hok, hfn]; rfl, rfl⟩
theorem rafter0 {b : Nat} {X : RmX} {I : RmI} (rel : RmRel X I) (ok : X.ok) (key : ByteArray) {seq : Int} (h2 : seq ≤ 9223372036854775807) : Does Tryz.prog 20 [.pointer (some ⟨b, 0, none⟩), .string key, .int .i64 seq] (RmO b X I) (fun v l => v = rowTup (liveFrom X.M key true seq) ∧ l = RmO b X I) := by
 refine spec_of Tryz.func20 rfl Tryz.ntmps20 Tryz.results20 _ (by simp) fun ι F => ?_
 refine vc_seq ?_
 refine vc_region ?_
 refine vp ?_
 refine vc_alloc [.bool false, .string ⟨#[]⟩, .int .u64 0] ze_45 rfl rfl (fun b7 => ?_)
 refine vp ?_
 refine vc_nil ?_
 refine vc_then ?_
 refine vc_seq ?_
 refine vc_seq ?_
 refine vc_region ?_
 refine vp ?_
 refine vc_y (y_eqNil ep_28 rfl rfl) rfl ?_
 refine vc_nil ?_
 refine vc_then ?_
 refine vc_condF rfl ?_
 refine vc_skip ?_
 refine vc_then ?_
 refine vc_seq ?_
 refine vc_region ?_
 refine vp ?_
 refine vp ?_
 refine vc_y (y_fieldP fl_132_2 5 rfl rfl) rfl ?_
 refine vc_y (y_load1 1 rfl one_129 rfl (Pts.vis rfl)) rfl ?_
 refine vp ?_
 refine vc_callv ca_82 (us := []) (vs := []) rfl [_, _] rfl [4] rfl (Does.re (tree_after key) (show _ = resV I.t[nextP X.M key true]? by rw [rel.nextP])) rfl ?_
 rintro _ _ ⟨rfl, rfl⟩
 iterate 7 refine vp ?_
 refine vc_nil ?_
 refine vc_then ?_
 refine vc_seq ?_
 refine vc_region ?_
 iterate 5 refine vp ?_
 refine vc_callv ca_83 (us := []) (vs := []) rfl [_, _, _, _, _] rfl [2, 2, 2, 0, 1, 1, 1] rfl (rfrom0 rel ok h2 (nextP X.M key true) rfl rfl rfl) rfl ?_
 rintro _ _ ⟨rfl, rfl⟩
 iterate 4 refine vp ?_
 refine vc_storeP 7 rfl [_, _, _] [_, _, _] rfl rfl rfl sz_45 rfl rfl rfl ?_
 refine vp ?_
 refine vc_nil ?_
 refine vc_then ?_
 refine vc_ret ?_
 exact vc_endR Tryz.results20 (resL_cons (res_t rfl) (resL_cons (res_a 7 rfl (cs := [_, _, _]) ag_45 rfl (Pts.visA rfl)) (resL_cons (res_t rfl) (resL_nil)))) _ (ent_pick [0, 0, 0, 0, 0, 0, 0] rfl) ⟨rfl, rfl⟩
theorem rseek0 {b : Nat} {X : RmX} {I : RmI} (rel : RmRel X I) (ok : X.ok) (key : ByteArray) {seq : Int} (h2 : seq ≤ 9223372036854775807) : Does Tryz.prog 99 [.pointer (some ⟨b, 0, none⟩), .string key, .int .i64 seq] (RmO b X I) (fun v l => v = rowTup (liveFrom X.M key false seq) ∧ l = RmO b X I) := by
 refine spec_of Tryz.func99 rfl Tryz.ntmps99 Tryz.results99 _ (by simp) fun ι F => ?_
 refine vc_seq ?_
 refine vc_region ?_
 refine vp ?_
 refine vc_alloc [.bool false, .string ⟨#[]⟩, .int .u64 0] ze_45 rfl rfl (fun b7 => ?_)
 refine vp ?_
 refine vc_nil ?_
 refine vc_then ?_
 refine vc_seq ?_
 refine vc_seq ?_
 refine vc_region ?_
 refine vp ?_
 refine vc_y (y_eqNil ep_28 rfl rfl) rfl ?_
 refine vc_nil ?_
 refine vc_then ?_
 refine vc_condF rfl ?_
 refine vc_skip ?_
 refine vc_then ?_
 refine vc_seq ?_
 refine vc_region ?_
 refine vp ?_
 refine vp ?_
 refine vc_y (y_fieldP fl_132_2 5 rfl rfl) rfl ?_
 refine vc_y (y_load1 1 rfl one_129 rfl (Pts.vis rfl)) rfl ?_
 refine vp ?_
 refine vc_callv ca_138 (us := []) (vs := []) rfl [_, _] rfl [4] rfl (Does.re (tree_seek key) (show _ = resV I.t[nextP X.M key false]? by rw [rel.nextP])) rfl ?_
 rintro _ _ ⟨rfl, rfl⟩
 iterate 7 refine vp ?_
 refine vc_nil ?_
 refine vc_then ?_
 refine vc_seq ?_
 refine vc_region ?_
 iterate 5 refine vp ?_
 refine vc_callv ca_83 (us := []) (vs := []) rfl [_, _, _, _, _] rfl [2, 2, 2, 0, 1, 1, 1] rfl (rfrom0 rel ok h2 (nextP X.M key false) rfl rfl rfl) rfl ?_
 rintro _ _ ⟨rfl, rfl⟩
 iterate 4 refine vp ?_
 refine vc_storeP 7 rfl [_, _, _] [_, _, _] rfl rfl rfl sz_45 rfl rfl rfl ?_
 refine vp ?_
 refine vc_nil ?_
 refine vc_then ?_
 refine vc_ret ?_
 exact vc_endR Tryz.results99 (resL_cons (res_t rfl) (resL_cons (res_a 7 rfl (cs := [_, _, _]) ag_45 rfl (Pts.visA rfl)) (resL_cons (res_t rfl) (resL_nil)))) _ (ent_pick [0, 0, 0, 0, 0, 0, 0] rfl) ⟨rfl, rfl⟩
theorem room_seq {b : Nat} {X : RmX} (ok : X.ok) : Does Tryz.prog 16 [.pointer (some ⟨b, 0, none⟩)] [RoomC b X] (fun v l => v = .int .i64 X.R.seq ∧ l = [RoomC b X]) :=
 room_does (r := []) fun I rel => by rw [List.append_nil]; exact Does.fin (rseq0 rel ok) fun v l ⟨e, h⟩ => ⟨_, h ▸ ent_RmO0 rel, e, rfl⟩
theorem room_floor {b : Nat} {X : RmX} (ok : X.ok) : Does Tryz.prog 18 [.pointer (some ⟨b, 0, none⟩)] [RoomC b X] (fun v l => v = .int .i64 X.R.floor ∧ l = [RoomC b X]) :=
 room_does (r := []) fun I rel => by rw [List.append_nil]; exact Does.fin (rfloor0 rel ok) fun v l ⟨e, h⟩ => ⟨_, h ▸ ent_RmO0 rel, e, rfl⟩
theorem room_live {b : Nat} {X : RmX} (ok : X.ok) : Does Tryz.prog 22 [.pointer (some ⟨b, 0, none⟩)] [RoomC b X] (fun v l => v = .int .i64 (liveM X.M) ∧ l = [RoomC b X]) :=
 room_does (r := []) fun I rel => by rw [List.append_nil]; exact Does.fin (rlive0 rel ok) fun v l ⟨e, h⟩ => ⟨_, h ▸ ent_RmO0 rel, e, rfl⟩
theorem room_keys {b : Nat} {X : RmX} (ok : X.ok) : Does Tryz.prog 23 [.pointer (some ⟨b, 0, none⟩)] [RoomC b X] (fun v l => v = .int .i64 (countM X.M) ∧ l = [RoomC b X]) :=
 room_does (r := []) fun I rel => by rw [List.append_nil]; exact Does.fin (rkeys0 rel ok) fun v l ⟨e, h⟩ => ⟨_, h ▸ ent_RmO0 rel, e, rfl⟩
theorem room_vers {b : Nat} {X : RmX} (ok : X.ok) : Does Tryz.prog 24 [.pointer (some ⟨b, 0, none⟩)] [RoomC b X] (fun v l => v = .int .i64 (versM X.M) ∧ l = [RoomC b X]) :=
 room_does (r := []) fun I rel => by rw [List.append_nil]; exact Does.fin (rvers0 rel ok) fun v l ⟨e, h⟩ => ⟨_, h ▸ ent_RmO0 rel, e, rfl⟩
theorem room_asof {b : Nat} {X : RmX} (ok : X.ok) (s : Int) : Does Tryz.prog 32 [.pointer (some ⟨b, 0, none⟩), .int .u64 s] [RoomC b X] (fun v l => v = .tuple #[.int .i64 (asOfR X.R s).1, .int .i64 (asOfR X.R s).2] ∧ l = [RoomC b X]) :=
 room_does (r := []) fun I rel => by rw [List.append_nil]; exact Does.fin (rasof0 rel ok s) fun v l ⟨e, h⟩ => ⟨_, h ▸ ent_RmO0 rel, e, rfl⟩
theorem room_get {b : Nat} {X : RmX} (ok : X.ok) (key : ByteArray) {seq : Int} (h2 : seq ≤ 9223372036854775807) : Does Tryz.prog 19 [.pointer (some ⟨b, 0, none⟩), .string key, .int .i64 seq] [RoomC b X] (fun v l => v = valTup (verAt (chainM X.M key) seq) ∧ l = [RoomC b X]) :=
 room_does (r := []) fun I rel => by rw [List.append_nil]; exact Does.fin (rget0 rel ok key h2) fun v l ⟨e, h⟩ => ⟨_, h ▸ ent_RmO0 rel, e, rfl⟩
theorem room_after {b : Nat} {X : RmX} (ok : X.ok) (key : ByteArray) {seq : Int} (h2 : seq ≤ 9223372036854775807) : Does Tryz.prog 20 [.pointer (some ⟨b, 0, none⟩), .string key, .int .i64 seq] [RoomC b X] (fun v l => v = rowTup (liveFrom X.M key true seq) ∧ l = [RoomC b X]) :=
 room_does (r := []) fun I rel => by rw [List.append_nil]; exact Does.fin (rafter0 rel ok key h2) fun v l ⟨e, h⟩ => ⟨_, h ▸ ent_RmO0 rel, e, rfl⟩
theorem room_seek {b : Nat} {X : RmX} (ok : X.ok) (key : ByteArray) {seq : Int} (h2 : seq ≤ 9223372036854775807) : Does Tryz.prog 99 [.pointer (some ⟨b, 0, none⟩), .string key, .int .i64 seq] [RoomC b X] (fun v l => v = rowTup (liveFrom X.M key false seq) ∧ l = [RoomC b X]) :=
 room_does (r := []) fun I rel => by rw [List.append_nil]; exact Does.fin (rseek0 rel ok key h2) fun v l ⟨e, h⟩ => ⟨_, h ▸ ent_RmO0 rel, e, rfl⟩
end Go.Proofs.YtcpbibdbahfgaaaGreat
namespace Go.Proofs.YtcpbibdbahfgaaaGreat
open Go.Eng
theorem notT {b : Bool} (h : (!b) = true) : b = false := by cases b <;> simp_all
theorem notF {b : Bool} (h : (!b) = false) : b = true := by cases b <;> simp_all
def wkeyOk (s : ByteArray) : Bool := decide ((1 : Int) ≤ (s.size : Int)) && decide ((s.size : Int) ≤ 32)
def wrRight (w : Wr) : Bool := wkeyOk w.key && (valRight w.val && !(w.gone && !valEq w.val val0))
def lkLt (o : Option ByteArray) (k : ByteArray) : Bool := match o with | some a => sLt a k | none => true
def mayFrom : Option ByteArray → List Wr → Bool
 | _, [] => true
 | last, w :: r => wrRight w && (lkLt last w.key && mayFrom (some w.key) r)
def mayW (ws : List Wr) : Bool := mayFrom none ws && (decide ((1 : Int) ≤ (ws.length : Int)) && decide ((ws.length : Int) ≤ 16))
def lastK (xs : List Wr) : Nat → Option ByteArray
 | 0 => none
 | i + 1 => (xs[i]?).map (·.key)
theorem lastK_succ {xs : List Wr} {i : Nat} (h : i < xs.length) : lastK xs (i + 1) = some xs[i].key := by simp [lastK, List.getElem?_eq_getElem h]
theorem lastK_pos {xs : List Wr} {i : Nat} (h : 0 < i) (h' : i ≤ xs.length) : lastK xs i = some (xs[i - 1]'(by omega)).key := by
 cases i with
 | zero => omega
 | succ i => simp [lastK, List.getElem?_eq_getElem (show i < xs.length by omega)]
theorem mayFrom_mem : ∀ {ws : List Wr} {last : Option ByteArray}, mayFrom last ws = true → ∀ w ∈ ws, wrRight w = true
 | w :: r, last, h, x, hx => by
  simp only [mayFrom, Bool.and_eq_true] at h
  rcases List.mem_cons.1 hx with rfl | hx
  ·exact h.1
  ·exact mayFrom_mem h.2.2 x hx
theorem mayFrom_rise : ∀ {ws : List Wr} {last : Option ByteArray}, mayFrom last ws = true → Rise (ws.map (·.key)) ∧ ∀ w ∈ ws, lkLt last w.key = true
 | [], _, _ => ⟨trivial, by simp⟩
 | w :: r, last, h => by
  simp only [mayFrom, Bool.and_eq_true] at h
  obtain ⟨h1, h2⟩ := mayFrom_rise h.2.2
  refine ⟨⟨fun b hb => ?_, h1⟩, fun x hx => ?_⟩
  ·obtain ⟨x, hx, rfl⟩ := List.mem_map.1 hb
   exact h2 x hx
  ·rcases List.mem_cons.1 hx with rfl | hx
   ·exact h.2.1
   ·cases last with
    | none => rfl
    | some a => exact sLt_trans h.2.1 (h2 x hx)
theorem wkey_size {k : ByteArray} (h : wkeyOk k = true) : 1 ≤ k.size ∧ k.size ≤ 32 := by
 simp only [wkeyOk, Bool.and_eq_true, decide_eq_true_eq] at h; omega
theorem wr_key {w : Wr} (h : wrRight w = true) : 1 ≤ w.key.size ∧ w.key.size ≤ 32 := by
 simp only [wrRight, Bool.and_eq_true] at h; exact wkey_size h.1
def wAdd (M : Mp) (w : Wr) : Int := (if w.gone then 0 else (w.key.size : Int) + vWeight w.val) - lives w.key (chainM M w.key)
def addW (M : Mp) : List Wr → Int
 | [] => 0
 | w :: r => wAdd M w + addW M r
theorem addW_append (M : Mp) : ∀ (a b : List Wr), addW M (a ++ b) = addW M a + addW M b
 | [], b => by simp [addW]
 | w :: a, b => by simp only [List.cons_append, addW, addW_append M a b]; omega
theorem addW_succ {M : Mp} {ws : List Wr} {i : Nat} (h : i < ws.length) : addW M (ws.take (i + 1)) = addW M (ws.take i) + wAdd M ws[i] := by
 rw [List.take_succ_eq_append_getElem h, addW_append]; simp [addW]
theorem wAdd_bound {M : Mp} {w : Wr} (h : w.key.size ≤ 32) : -97 ≤ wAdd M w ∧ wAdd M w ≤ 97 := by
 have h1 := lives_le (chainM M w.key) h
 have h2 := vWeight_le w.val
 unfold wAdd
 split <;> omega
theorem addW_bound {M : Mp} : ∀ {ws : List Wr}, (∀ w ∈ ws, w.key.size ≤ 32) → -97 * (ws.length : Int) ≤ addW M ws ∧ addW M ws ≤ 97 * (ws.length : Int)
 | [], _ => by simp [addW]
 | w :: r, h => by
  have h1 := wAdd_bound (M := M) (h w (by simp))
  have h2 := addW_bound (M := M) (ws := r) (fun x hx => h x (by simp [hx]))
  simp only [addW, List.length_cons, Int.natCast_add]; omega
def spaceE (X : RmX) (ws : List Wr) : Int := if X.most ≤ X.R.seq then 17 else if X.quota < liveM X.M + addW X.M ws then 15 else 0
def conflW (M : Mp) (seq : Int) : List Wr → Bool
 | [] => false
 | w :: r => (match verLast (chainM M w.key) with | some v => decide (seq < v.seq) | none => false) || conflW M seq r
def checkE (X : RmX) (ws : List Wr) (seq : Int) : Int := if mayW ws then (if decide (X.R.floor ≤ seq) && decide (seq ≤ X.R.seq) then (if conflW X.M seq ws then 13 else spaceE X ws) else 14) else 1
def mPuts (M : Mp) (n : Int) : List Wr → Mp
 | [] => M
 | w :: r => mPuts (mPut M w.key ⟨n, w.gone, w.val⟩) n r
theorem mPuts_append (n : Int) : ∀ (a b : List Wr) (M : Mp), mPuts M n (a ++ b) = mPuts (mPuts M n a) n b
 | [], b, M => rfl
 | w :: a, b, M => mPuts_append n a b _
theorem mPuts_succ {M : Mp} {n : Int} {ws : List Wr} {i : Nat} (h : i < ws.length) : mPuts M n (ws.take (i + 1)) = mPut (mPuts M n (ws.take i)) ws[i].key ⟨n, ws[i].gone, ws[i].val⟩ := by
 rw [List.take_succ_eq_append_getElem h, mPuts_append]; rfl
def commitX (X : RmX) (ws : List Wr) (stamp : Int) : Int × Int × RmX :=
 if mayW ws then (if spaceE X ws = 0 then (if (pushR X.R stamp).2.1 = 0 then ((pushR X.R stamp).1, 0, ⟨X.label, X.ring, X.quota, X.most, (pushR X.R stamp).2.2, mPuts X.M (pushR X.R stamp).1 ws⟩) else (0, (pushR X.R stamp).2.1, X)) else (0, spaceE X ws, X)) else (0, 1, X)
theorem look_mem {M : Mp} (hr : Rise (ks M)) {p : ByteArray × List Ver} (hp : p ∈ M) : Eng.look M p.1 = some p.2 := by
 obtain ⟨i, hi, e⟩ := List.getElem_of_mem hp
 have hk : (ks M)[i]? = some p.1 := by unfold Eng.ks; rw [List.getElem?_map, List.getElem?_eq_getElem hi, e]; rfl
 obtain ⟨h1, h2⟩ := lb_at hr hk
 simp [Eng.look, h1, h2, List.getElem?_eq_getElem hi, e]
theorem chain_mem {M : Mp} (hr : Rise (ks M)) {p : ByteArray × List Ver} (hp : p ∈ M) : chainM M p.1 = p.2 := by simp [chainM, look_mem hr hp]
theorem look_mem' {M : Mp} {k : ByteArray} {l : List Ver} (h : Eng.look M k = some l) : (k, l) ∈ M := by
 obtain ⟨v, A, B, e1, e2, _⟩ := fnd_split (look_some h)
 rw [h] at e1; obtain rfl := Option.some.inj e1
 rw [e2]; simp
theorem look_iff {M : Mp} (hr : Rise (ks M)) {k : ByteArray} {l : List Ver} : Eng.look M k = some l ↔ (k, l) ∈ M := ⟨look_mem', fun h => look_mem hr h⟩
theorem look_ext {M M' : Mp} (hr : Rise (ks M)) (hr' : Rise (ks M')) {k : ByteArray} (h : ∀ l, (k, l) ∈ M ↔ (k, l) ∈ M') : Eng.look M k = Eng.look M' k := by
 cases h1 : Eng.look M k with
 | some l => exact ((look_iff hr').2 ((h l).1 ((look_iff hr).1 h1))).symm
 | none =>
  cases h2 : Eng.look M' k with
  | none => rfl
  | some l => rw [(look_iff hr).2 ((h l).2 ((look_iff hr').1 h2))] at h1; cases h1
theorem mem_ins_iff {M : Mp} {k : ByteArray} {l : List Ver} {p : ByteArray × List Ver} : p ∈ ins M k l ↔ p = (k, l) ∨ p ∈ M := by
 unfold ins
 conv => rhs; rw [← List.take_append_drop (lb (ks M) k) M]
 simp only [List.mem_append, List.mem_cons]
 constructor
 ·rintro (h | h | h)
  ·exact .inr (.inl h)
  ·exact .inl h
  ·exact .inr (.inr h)
 ·rintro (h | h | h)
  ·exact .inr (.inl h)
  ·exact .inl h
  ·exact .inr (.inr h)
theorem mPut_mem {M : Mp} {k : ByteArray} {x : Ver} {p : ByteArray × List Ver} (hp : p ∈ mPut M k x) : p = (k, chainM M k ++ [x]) ∨ p ∈ M := by
 unfold mPut at hp
 cases hf : fnd (ks M) k with
 | true =>
  rw [hf] at hp
  obtain ⟨v, A, B, e1, e2, e3, e4, e5⟩ := fnd_split hf
  simp only [if_true] at hp
  rw [e4] at hp
  rw [e2]
  simp only [List.mem_append, List.mem_cons] at hp ⊢
  rcases hp with h | h | h
  ·exact .inr (.inl h)
  ·exact .inl (by rw [h, ← e2])
  ·exact .inr (.inr (.inr h))
 | false =>
  rw [hf] at hp
  rcases mem_ins_iff.1 hp with h | h
  ·exact .inl (by rw [h, chainM_none hf]; rfl)
  ·exact .inr h
theorem ks_put1 {β : Type} {M : List (ByteArray × β)} {k : ByteArray} (hf : fnd (ks M) k = true) (v : β) : ks (put1 M k v) = ks M := by
 obtain ⟨w, A, B, e1, e2, e3, e4, e5⟩ := fnd_split hf
 rw [e4, e2, ks_append, ks_append]; rfl
theorem mPut_rise {M : Mp} {k : ByteArray} {x : Ver} (hr : Rise (ks M)) : Rise (ks (mPut M k x)) := by
 unfold mPut
 cases hf : fnd (ks M) k with
 | true => simp only [if_true]; rw [ks_put1 hf]; exact hr
 | false =>
  simp only [Bool.false_eq_true, if_false]
  exact rise_ins hr fun h => by rw [(fnd_iff hr).2 h] at hf; cases hf
theorem mPut_len {M : Mp} {k : ByteArray} {x : Ver} : (mPut M k x).length ≤ M.length + 1 := by
 unfold mPut
 cases hf : fnd (ks M) k with
 | true => simp only [if_true, put1, List.length_set]; omega
 | false => simp only [Bool.false_eq_true, if_false]; rw [ins_len]; omega
theorem mPut_other {M : Mp} {k k' : ByteArray} {x : Ver} (hr : Rise (ks M)) (h : k' ≠ k) : chainM (mPut M k x) k' = chainM M k' := by
 unfold chainM
 congr 1
 refine look_ext (mPut_rise hr) hr fun l => ?_
 unfold mPut
 cases hf : fnd (ks M) k with
 | true =>
  obtain ⟨v, A, B, e1, e2, e3, e4, e5⟩ := fnd_split hf
  simp only [if_true]
  rw [e4]
  conv => rhs; rw [e2]
  simp [h]
 | false =>
  simp only [Bool.false_eq_true, if_false]
  rw [mem_ins_iff]
  simp [h]
theorem RmX.ok.mput {X : RmX} (ok : X.ok) {k : ByteArray} {x : Ver} (h1 : 1 ≤ k.size ∧ k.size ≤ 32) (hR : chainRight (chainM X.M k ++ [x]) = true) (hl : ((chainM X.M k).length : Int) ≤ X.R.seq - X.R.begin) (hs : x.seq ≤ X.R.seq) (hlt : X.M.length < 100000) :
  RmX.ok ⟨X.label, X.ring, X.quota, X.most, X.R, mPut X.M k x⟩ :=
 ⟨ok.lab, ok.r1, ok.q, ok.mo, ok.rg, ok.rs, ok.sm, ok.bg, fun p hp => by
  rcases mPut_mem hp with rfl | hp
  ·exact ⟨h1.1, h1.2, hR, by simp, by simp only [List.length_append, List.length_singleton]; omega, fun v hv => by
    rcases List.mem_append.1 hv with hv | hv
    ·exact (ok.chain k).2.2 v hv
    ·simp at hv; rw [hv]; exact hs⟩
  ·exact ok.ps p hp, mPut_rise ok.rise, by have := mPut_len (M := X.M) (k := k) (x := x); simp only; omega⟩
theorem chainFrom_snoc : ∀ {l : List Ver} {last : Int} {x : Ver}, chainFrom last l = true → verRight x = true → (∀ v ∈ l, v.seq < x.seq) → last < x.seq → chainFrom last (l ++ [x]) = true
 | [], last, x, _, hx, _, hl => by simp [chainFrom, hx, hl]
 | v :: r, last, x, h, hx, hv, hl => by
  simp only [chainFrom, Bool.and_eq_true, decide_eq_true_eq, List.cons_append] at h ⊢
  exact ⟨h.1, h.2.1, chainFrom_snoc h.2.2 hx (fun y hy => hv y (by simp [hy])) (hv v (by simp))⟩
structure Puts (X : RmX) (R' : RR) (n : Int) (ws : List Wr) (i : Nat) : Prop where
 ok : RmX.ok ⟨X.label, X.ring, X.quota, X.most, R', mPuts X.M n (ws.take i)⟩
 len : (mPuts X.M n (ws.take i)).length ≤ X.M.length + i
 out : ∀ k, (∀ w ∈ ws.take i, w.key ≠ k) → chainM (mPuts X.M n (ws.take i)) k = chainM X.M k
structure PutsH (X : RmX) (R' : RR) (ws : List Wr) : Prop where
 ok : X.ok
 rg : R'.ok
 seq : R'.seq = X.R.seq + 1
 bgn : R'.begin = X.R.begin
 size : R'.size = X.R.size
 sm : R'.seq ≤ X.most
 bg : R'.seq - R'.begin ≤ 900000
 may : mayFrom none ws = true
 le : X.M.length + ws.length ≤ 100000
theorem PutsH.zero {X : RmX} {R' : RR} {ws : List Wr} (h : PutsH X R' ws) : Puts X R' R'.seq ws 0 := by
 obtain ⟨ok, h1, h2, h3, h4, h5, h6, h7, h8⟩ := h
 refine ⟨⟨ok.lab, ok.r1, ok.q, ok.mo, h1, h4.trans ok.rs, h5, h6, fun p hp => ?_, ?_, ?_⟩, by simp [mPuts], fun k _ => by simp [mPuts]⟩
 ·have hp' : p ∈ X.M := by simpa [mPuts] using hp
  have := ok.ps p hp'
  exact ⟨this.k1, this.k2, this.c, this.ne, by have := this.len; simp only; omega, fun v hv => by have := this.sq v hv; simp only; omega⟩
 ·simpa [mPuts] using ok.rise
 ·simpa [mPuts] using ok.le
theorem PutsH.key {X : RmX} {R' : RR} {ws : List Wr} (h : PutsH X R' ws) {i : Nat} (hi : i < ws.length) : ∀ w ∈ ws.take i, w.key ≠ ws[i].key := by
 intro w hw e
 have hr := (mayFrom_rise h.may).1
 obtain ⟨j, hj, e2⟩ := List.mem_take_iff_getElem.1 hw
 have h1 := lb_at hr (p := j) (k := w.key) (by rw [List.getElem?_map, List.getElem?_eq_getElem (by omega), e2]; rfl)
 have h2 := lb_at hr (p := i) (k := w.key) (by rw [List.getElem?_map, List.getElem?_eq_getElem hi, e]; rfl)
 omega
theorem PutsH.right {X : RmX} {R' : RR} {ws : List Wr} (h : PutsH X R' ws) {i : Nat} (hi : i < ws.length) (hp : Puts X R' R'.seq ws i) :
  chainM (mPuts X.M R'.seq (ws.take i)) ws[i].key = chainM X.M ws[i].key ∧ chainRight (chainM X.M ws[i].key ++ [⟨R'.seq, ws[i].gone, ws[i].val⟩]) = true := by
 have hw := mayFrom_mem h.may _ (List.getElem_mem hi)
 refine ⟨hp.out _ (h.key hi), ?_⟩
 have hc := h.ok.chain ws[i].key
 have h1 := h.ok.rg.b0
 have h2 := h.ok.rg.b1
 have h3 := h.seq
 have h4 := h.sm
 have h5 := h.ok.mo
 refine chainFrom_snoc hc.1 ?_ (fun v hv => by have := hc.2.2 v hv; simp only; omega) (by simp only; omega)
 simp only [wrRight, Bool.and_eq_true] at hw
 simp only [verRight, Bool.and_eq_true, decide_eq_true_eq]
 refine ⟨by omega, by omega, hw.2.1, ?_⟩
 have := hw.2.2
 cases hg : ws[i].gone <;> simp_all
theorem PutsH.step {X : RmX} {R' : RR} {ws : List Wr} (h : PutsH X R' ws) {i : Nat} (hi : i < ws.length) (hp : Puts X R' R'.seq ws i) : Puts X R' R'.seq ws (i + 1) := by
 obtain ⟨e1, e2⟩ := h.right hi hp
 have hw := mayFrom_mem h.may _ (List.getElem_mem hi)
 have hc := h.ok.chain ws[i].key
 have h3 := h.seq
 have h4 := h.bgn
 have hlen := hp.len
 have hle := h.le
 have hcl : ((chainM X.M ws[i].key).length : Int) ≤ 1 + (X.R.seq - X.R.begin) := by
  unfold chainM
  cases hl : Eng.look X.M ws[i].key with
  | none => have := h.ok.rg.b1; simp; omega
  | some l => exact (h.ok.ps _ (look_mem' hl)).len
 refine ⟨?_, ?_, fun k hk => ?_⟩
 ·rw [mPuts_succ hi]
  exact hp.ok.mput (X := ⟨X.label, X.ring, X.quota, X.most, R', mPuts X.M R'.seq (ws.take i)⟩) (wr_key hw) (by simp only; rw [e1]; exact e2) (by simp only; rw [e1]; omega) (Int.le_refl _) (by simp only; omega)
 ·rw [mPuts_succ hi]
  have := mPut_len (M := mPuts X.M R'.seq (ws.take i)) (k := ws[i].key) (x := ⟨R'.seq, ws[i].gone, ws[i].val⟩)
  omega
 ·rw [mPuts_succ hi, mPut_other hp.ok.rise (fun e => hk ws[i] (by rw [List.take_succ_eq_append_getElem hi]; exact List.mem_append_right _ (List.mem_singleton.2 rfl)) e.symm)]
  exact hp.out k fun w hw => hk w (by rw [List.take_succ_eq_append_getElem hi]; exact List.mem_append_left _ hw)
end Go.Proofs.YtcpbibdbahfgaaaGreat
namespace Go.Proofs.YtcpbibdbahfgaaaGreat
open Go.Eng
def sw1 (f : Int) (p : ByteArray × List Ver) : Option (ByteArray × List Ver) := if (verSweep p.2 f).isEmpty then none else some (p.1, verSweep p.2 f)
def sweepM (M : Mp) (f : Int) : Mp := M.filterMap (sw1 f)
def en1 (s : Int) (p : ByteArray × List Ver) : Option En := (verAt p.2 s).map fun v => ⟨p.1, v.seq, v.val⟩
def entM (M : Mp) (s : Int) : List En := M.filterMap (en1 s)
theorem rise_subl {a b : List ByteArray} (h : a.Sublist b) : Rise b → Rise a := by
 induction h with
 | slnil => exact id
 | cons x _ ih => exact fun hr => ih hr.2
 | cons_cons x hs ih => exact fun hr => ⟨fun y hy => hr.1 y (hs.subset hy), ih hr.2⟩
theorem sw1_key {f : Int} {p q : ByteArray × List Ver} (h : sw1 f p = some q) : q.1 = p.1 ∧ q.2 = verSweep p.2 f ∧ q.2 ≠ [] := by
 unfold sw1 at h
 split at h
 ·cases h
 ·rename_i h1
  obtain rfl := Option.some.inj h
  exact ⟨rfl, rfl, by simpa using h1⟩
theorem sweep_ks (M : Mp) (f : Int) : (ks (sweepM M f)).Sublist (ks M) := by
 induction M with
 | nil => exact List.Sublist.slnil
 | cons p M ih =>
  unfold sweepM at *
  rw [List.filterMap_cons]
  cases h : sw1 f p with
  | none => exact ih.cons _
  | some q =>
   simp only [ks, List.map_cons]
   rw [(sw1_key h).1]
   exact ih.cons_cons _
theorem chainFrom_drop : ∀ {l : List Ver} {last : Int} (i : Nat), chainFrom last l = true → (∀ v ∈ l.drop i, 0 < v.seq) → chainFrom 0 (l.drop i) = true
 | [], _, i, _, _ => by simp [chainFrom]
 | v :: r, last, 0, h, hp => by
  simp only [chainFrom, Bool.and_eq_true, decide_eq_true_eq, List.drop_zero] at h ⊢
  exact ⟨h.1, hp v (by simp), h.2.2⟩
 | v :: r, last, i + 1, h, hp => by
  simp only [chainFrom, Bool.and_eq_true, decide_eq_true_eq] at h
  rw [List.drop_succ_cons] at hp ⊢
  exact chainFrom_drop i h.2.2 hp
theorem chainRight_drop {l : List Ver} (h : chainRight l = true) (i : Nat) : chainRight (l.drop i) = true :=
 chainFrom_drop i h fun v hv => (chainFrom_mem h v (List.mem_of_mem_drop hv)).1
theorem verSweep_right {l : List Ver} (h : chainRight l = true) (f : Int) : chainRight (verSweep l f) = true := by
 unfold verSweep; rw [if_pos h]; exact chainRight_drop h _
theorem verSweep_mem {l : List Ver} {f : Int} {v : Ver} (h : v ∈ verSweep l f) : v ∈ l := by
 unfold verSweep at h
 split at h
 ·exact List.mem_of_mem_drop h
 ·cases h
theorem verSweep_len (l : List Ver) (f : Int) : (verSweep l f).length ≤ l.length := by
 unfold verSweep
 split
 ·simp
 ·simp
def swX (X : RmX) : RmX := ⟨X.label, X.ring, X.quota, X.most, X.R, sweepM X.M X.R.floor⟩
theorem RmX.ok.sweep {X : RmX} (ok : X.ok) : (swX X).ok :=
 ⟨ok.lab, ok.r1, ok.q, ok.mo, ok.rg, ok.rs, ok.sm, ok.bg, fun p hp => by
  obtain ⟨q, hq, e⟩ := List.mem_filterMap.1 hp
  obtain ⟨e1, e2, e3⟩ := sw1_key e
  have h := ok.ps q hq
  refine ⟨by rw [e1]; exact h.k1, by rw [e1]; exact h.k2, by rw [e2]; exact verSweep_right h.c _, e3, ?_, fun v hv => h.sq v (verSweep_mem (e2 ▸ hv))⟩
  have h1 := h.len
  have h2 := verSweep_len q.2 X.R.floor
  rw [← e2] at h2
  simp only [swX]; omega, rise_subl (sweep_ks _ _) ok.rise, by
  have h1 := ok.le
  have h2 := List.length_filterMap_le (sw1 X.R.floor) X.M
  simp only [swX, sweepM]; omega⟩
theorem sweep_snoc (A : Mp) (p : ByteArray × List Ver) (f : Int) : sweepM (A ++ [p]) f = sweepM A f ++ (match sw1 f p with | some q => [q] | none => []) := by
 unfold sweepM
 rw [List.filterMap_append, List.filterMap_cons]
 cases sw1 f p <;> rfl
theorem ent_snoc (A : Mp) (p : ByteArray × List Ver) (s : Int) : entM (A ++ [p]) s = entM A s ++ (match verAt p.2 s with | some v => [⟨p.1, v.seq, v.val⟩] | none => []) := by
 unfold entM en1
 rw [List.filterMap_append, List.filterMap_cons]
 cases verAt p.2 s <;> rfl
end Go.Proofs.YtcpbibdbahfgaaaGreat
namespace Go.Proofs.YtcpbibdbahfgaaaGreat
open Go.Eng
namespace FRoom3
theorem sl_35 : TySl Tryz.prog 35 97 5 := ⟨Tryz.underlying35, by kernel_rfl⟩
theorem ag_97 : TyAgg Tryz.prog 97 5 := ⟨⟨_, Tryz.underlying97, rfl⟩, by kernel_rfl⟩
theorem ze_97 : (Tryz.prog.info? 97).map (·.zero) = some (some (.agg #[.string ⟨#[]⟩, .bool false, .bool false, .string ⟨#[]⟩, .int .u64 0])) := by kernel_rfl
theorem sz_97 : (Tryz.prog.info? 97).map (·.size) = some 5 := by kernel_rfl
theorem fl_97_0 : Fld Tryz.prog 97 0 0 := ⟨_, _, 0, Tryz.underlying97, rfl, rfl, by kernel_rfl⟩
theorem one_9 : TyOne Tryz.prog 9 := ⟨⟨_, Tryz.underlying9, rfl⟩, by kernel_rfl⟩
theorem ca_86 : Callable Tryz.prog 86 := ⟨_, _, Tryz.func86, rfl, rfl⟩
theorem fl_97_2 : Fld Tryz.prog 97 2 2 := ⟨_, _, 2, Tryz.underlying97, rfl, rfl, by kernel_rfl⟩
theorem ag_45 : TyAgg Tryz.prog 45 3 := ⟨⟨_, Tryz.underlying45, rfl⟩, by kernel_rfl⟩
theorem ca_87 : Callable Tryz.prog 87 := ⟨_, _, Tryz.func87, rfl, rfl⟩
theorem fl_97_1 : Fld Tryz.prog 97 1 1 := ⟨_, _, 0, Tryz.underlying97, rfl, rfl, by kernel_rfl⟩
theorem one_4 : TyOne Tryz.prog 4 := ⟨⟨_, Tryz.underlying4, rfl⟩, by kernel_rfl⟩
theorem ze_45 : (Tryz.prog.info? 45).map (·.zero) = some (some (.agg #[.bool false, .string ⟨#[]⟩, .int .u64 0])) := by kernel_rfl
theorem bu_45_n   (w : World) : (Instr.build 45 #[]).run Tryz.prog w = .ok (.agg #[.bool false, .string ⟨#[]⟩, .int .u64 0]) w := by
 have hz := @ze_45
 exact Go.Eng.run_build (pl := [(0, 1), (1, 1), (2, 1)]) hz Tryz.underlying45 (by kernel_rfl) rfl (by simp [Instr.fill, cells_agg]) w
theorem eg_45 : Tryz.prog.eqGuardType Tryz.prog.depth 45 = false := by kernel_rfl
theorem ca_84 : Callable Tryz.prog 84 := ⟨_, _, Tryz.func84, rfl, rfl⟩
theorem fl_132_0 : Fld Tryz.prog 132 0 0 := ⟨_, _, 3, Tryz.underlying132, rfl, rfl, by kernel_rfl⟩
theorem fl_24_3 : Fld Tryz.prog 24 3 3 := ⟨_, _, 0, Tryz.underlying24, rfl, rfl, by kernel_rfl⟩
theorem one_3 : TyOne Tryz.prog 3 := ⟨⟨_, Tryz.underlying3, rfl⟩, by kernel_rfl⟩
theorem ca_16 : Callable Tryz.prog 16 := ⟨_, _, Tryz.func16, rfl, rfl⟩
theorem fl_132_5 : Fld Tryz.prog 132 5 8 := ⟨_, _, 0, Tryz.underlying132, rfl, rfl, by kernel_rfl⟩
theorem ca_76 : Callable Tryz.prog 76 := ⟨_, _, Tryz.func76, rfl, rfl⟩
theorem ca_120 : Callable Tryz.prog 120 := ⟨_, _, Tryz.func120, rfl, rfl⟩
theorem ca_113 : Callable Tryz.prog 113 := ⟨_, _, Tryz.func113, rfl, rfl⟩
theorem fl_24_2 : Fld Tryz.prog 24 2 2 := ⟨_, _, 0, Tryz.underlying24, rfl, rfl, by kernel_rfl⟩
theorem ep_28 : Tryz.prog.underlying 28 = some (.pointer (Tryz.prog.pointee 28)) := by kernel_rfl
theorem ca_34 : Callable Tryz.prog 34 := ⟨_, _, Tryz.func34, rfl, rfl⟩
theorem ca_18 : Callable Tryz.prog 18 := ⟨_, _, Tryz.func18, rfl, rfl⟩
theorem ca_85 : Callable Tryz.prog 85 := ⟨_, _, Tryz.func85, rfl, rfl⟩
theorem ze_135 : (Tryz.prog.info? 135).map (·.zero) = some (some (.agg #[.int .i64 0, .bool false, .bool false, .string ⟨#[]⟩, .int .u64 0])) := by kernel_rfl
theorem sz_135 : (Tryz.prog.info? 135).map (·.size) = some 5 := by kernel_rfl
theorem fl_135_0 : Fld Tryz.prog 135 0 0 := ⟨_, _, 0, Tryz.underlying135, rfl, rfl, by kernel_rfl⟩
theorem ca_71 : Callable Tryz.prog 71 := ⟨_, _, Tryz.func71, rfl, rfl⟩
theorem fl_132_1 : Fld Tryz.prog 132 1 4 := ⟨_, _, 0, Tryz.underlying132, rfl, rfl, by kernel_rfl⟩
theorem one_128 : TyOne Tryz.prog 128 := ⟨⟨_, Tryz.underlying128, rfl⟩, by kernel_rfl⟩
theorem ca_72 : Callable Tryz.prog 72 := ⟨_, _, Tryz.func72, rfl, rfl⟩
theorem bu_135_0_1_2 (v0 : Value) (v1 : Value) (v2_0 v2_1 v2_2 : Value) (h0 : v0.cells = #[v0]) (h1 : v1.cells = #[v1]) (w : World) : (Instr.build 135 #[(0, v0), (1, v1), (2, .agg #[v2_0, v2_1, v2_2])]).run Tryz.prog w = .ok (.agg #[v0, v1, v2_0, v2_1, v2_2]) w := by
 have hz := @ze_135
 exact Go.Eng.run_build (pl := [(0, 1), (1, 1), (2, 3)]) hz Tryz.underlying135 (by kernel_rfl) rfl (by simp [Instr.fill, h0, h1, cells_agg]) w
theorem ca_73 : Callable Tryz.prog 73 := ⟨_, _, Tryz.func73, rfl, rfl⟩
end FRoom3
open FRoom3
theorem rmay_spec {A : HP} {h : SH} {ws : List Wr} (hv : Vis A (Rd eWr h ws)) (hb : ws.length ≤ 1000000) : Does Tryz.prog 34 [h.v] [A] (fun v l => v = .bool (mayW ws) ∧ l = [A]) := by
 refine spec_of Tryz.func34 rfl Tryz.ntmps34 Tryz.results34 _ (by simp) fun ι F => ?_
 refine vc_see 0 rfl (hv.imp fun w r => r.len) (fun hlen => ?_)
 refine vc_seq ?_
 refine vc_region ?_
 refine vp ?_
 refine vc_nil ?_
 refine vc_then ?_
 refine vc_seq ?_
 refine vc_seq ?_
 refine vc_region ?_
 refine vp ?_
 refine vc_y (y_len Tryz.underlying35 rfl (by first | assumption | rfl)) rfl ?_
 refine vp ?_
 refine vc_nil ?_
 refine vc_then ?_
 refine vc_block ?_
 refine vc_loop (α := Nat) (fun xq_ => match xq_ with | i => [(0, h.v), (5, h.v), (6, .int .i64 (ws.length : Int)), (7, .int .i64 (i : Int))]) (fun xq_ => match xq_ with | i => [A]) (fun xq_ => match xq_ with | i => ws.length - i) (fun xq_ => match xq_ with | i => i ≤ ws.length ∧ mayFrom none ws = mayFrom (lastK ws i) (ws.drop i)) 0 ⟨Nat.zero_le _, rfl⟩ ⟨rfl, rfl, rfl, rfl, trivial⟩ (ent_pick [0] rfl) ?_
 rintro i ⟨hi, hch⟩
 show VC _ _ _ _ [(0, h.v), (5, h.v), (6, .int .i64 (ws.length : Int)), (7, .int .i64 (i : Int))] ([A])
 refine vc_seq ?_
 refine vc_region ?_
 refine vp ?_
 refine vc_nil ?_
 refine vc_then ?_
 refine vc_seq ?_
 first | refine vc_condP rfl (fun c8 => ?_) (fun c8 => ?_) | refine vc_condN rfl (fun c8 => ?_) (fun c8 => ?_) | refine vc_cond rfl (fun c8 => ?_) (fun c8 => ?_)
 ·skip
  have hi2 : i < ws.length := by omega
  have hch2 : mayFrom none ws = (wrRight ws[i] && (lkLt (lastK ws i) ws[i].key && mayFrom (some ws[i].key) (ws.drop (i + 1)))) := by rw [hch, List.drop_eq_getElem_cons hi2]; rfl
  refine vc_skip ?_
  refine vc_then ?_
  refine vc_seq ?_
  refine vc_block ?_
  refine vc_seq ?_
  refine vc_region ?_
  refine vp ?_
  refine vc_y (y_elem 0 rfl (hv) i rfl hi2 sl_35 rfl rfl) rfl ?_
  refine vc_y (y_loadA 0 rfl (cs := [_, _, _, _, _]) ag_97 rfl (Rd.visA (hv) (List.getElem?_eq_getElem (by first | assumption | omega)) rfl)) rfl ?_
  refine vc_alloc [.string ⟨#[]⟩, .bool false, .bool false, .string ⟨#[]⟩, .int .u64 0] ze_97 rfl rfl (fun b4 => ?_)
  refine vp ?_
  refine vc_storeP 0 rfl [_, _, _, _, _] [_, _, _, _, _] rfl rfl rfl sz_97 rfl rfl rfl ?_
  refine vc_nil ?_
  refine vc_then ?_
  refine vc_seq ?_
  refine vc_draw (by kernel_rfl) _ none [0, 0] rfl ?_
  refine tp 0 rfl (by exact y_fieldP fl_97_0 0 rfl rfl) ?_
  refine tk 1 rfl (by exact y_load1 0 rfl one_9 rfl (Pts.vis rfl)) ?_
  refine va_ready [2] (by kernel_rfl) rfl ?_
  refine vo_cons rfl (fun hC0 => ?_) ?_
  ·skip
   refine vc_callv ca_86 (us := []) (vs := []) rfl [_] rfl [] rfl (rkey_spec _) rfl ?_
   rintro _ _ ⟨rfl, rfl⟩
   refine vc_nil ?_
   refine vc_then ?_
   refine va_kept hC0 [0, 0] rfl ?_
   clear hC0
   refine tpp 3 ?_
   refine tpp 4 ?_
   first | refine va_splitP 16 rfl (fun c16 => ?_) (fun c16 => ?_) | refine va_splitN 16 rfl (fun c16 => ?_) (fun c16 => ?_) | refine va_split 16 rfl (fun c16 => ?_) (fun c16 => ?_)
   ·skip
    have hk : wkeyOk ws[i].key = false := notT c16
    have hwr : wrRight ws[i] = false := by simp [wrRight, hk]
    refine sk 5 16 ?_
    refine sk 6 16 ?_
    refine sk 7 16 ?_
    refine sk 8 16 ?_
    refine tpp 9 ?_
    refine tpp 10 ?_
    refine sk 11 22 ?_
    refine sk 12 22 ?_
    refine sk 13 22 ?_
    refine sku 14 25 ?_
    refine sku 15 25 ?_
    refine sku 16 25 ?_
    refine sku 17 25 ?_
    refine sk 18 22 ?_
    refine tpp 19 ?_
    refine tpp 20 ?_
    refine sk 21 32 ?_
    refine sk 22 32 ?_
    refine sk 23 32 ?_
    refine sku 24 35 ?_
    refine sku 25 35 ?_
    refine sku 26 35 ?_
    refine sku 27 35 ?_
    refine sku 28 35 ?_
    refine sku 29 35 ?_
    refine sku 30 35 ?_
    refine sku 31 35 ?_
    refine sku 32 35 ?_
    refine sk 33 32 ?_
    refine tpp 34 ?_
    refine va_done (by kernel_rfl) ?_
    refine vc_then ?_
    refine vc_condT rfl ?_
    refine vc_seq ?_
    refine vc_region ?_
    refine vp ?_
    refine vc_nil ?_
    refine vc_then ?_
    refine vc_ret ?_
    refine vc_inRet ?_
    refine vc_thenRet ?_
    refine vc_thenRet ?_
    refine vc_inRet ?_
    refine vc_thenRet ?_
    exact vc_end1 Tryz.results34 rfl _ (ent_pick [1] rfl) ⟨by first | (unfold mayW; rw [hch, List.drop_length, show mayFrom (lastK ws ws.length) [] = true from rfl, Bool.true_and]) | (unfold mayW; rw [hch2, hwr]; rfl) | (unfold mayW; rw [hch2, hls]; simp [lkLt, hlt]), rfl⟩
   ·skip
    have hk : wkeyOk ws[i].key = true := notF c16
    refine tg 5 16 rfl (by exact y_fieldP fl_97_2 2 rfl rfl) ?_
    refine tkg 6 16 rfl (by exact y_loadA 0 rfl (cs := [_, _, _]) ag_45 rfl (Pts.visA rfl)) ?_
    refine va_ready [7] (by kernel_rfl) rfl ?_
    refine vo_cons rfl (fun hC0 => ?_) ?_
    ·skip
     refine vc_guardT 16 rfl rfl ?_
     refine vc_callv ca_87 (us := []) (vs := []) rfl [_] rfl [] rfl (vright_spec ws[i].val) rfl ?_
     rintro _ _ ⟨rfl, rfl⟩
     refine vc_nil ?_
     refine vc_then ?_
     refine va_kept hC0 [0, 0] rfl ?_
     clear hC0
     refine tgp 8 16 ?_
     refine tpp 9 ?_
     refine tpp 10 ?_
     first | refine va_splitP 22 rfl (fun c22 => ?_) (fun c22 => ?_) | refine va_splitN 22 rfl (fun c22 => ?_) (fun c22 => ?_) | refine va_split 22 rfl (fun c22 => ?_) (fun c22 => ?_)
     ·skip
      have hvr : valRight ws[i].val = false := notT c22
      have hwr : wrRight ws[i] = false := by simp [wrRight, hvr]
      refine sk 11 22 ?_
      refine sk 12 22 ?_
      refine sk 13 22 ?_
      refine sku 14 25 ?_
      refine sku 15 25 ?_
      refine sku 16 25 ?_
      refine sku 17 25 ?_
      refine sk 18 22 ?_
      refine tpp 19 ?_
      refine tpp 20 ?_
      refine sk 21 32 ?_
      refine sk 22 32 ?_
      refine sk 23 32 ?_
      refine sku 24 35 ?_
      refine sku 25 35 ?_
      refine sku 26 35 ?_
      refine sku 27 35 ?_
      refine sku 28 35 ?_
      refine sku 29 35 ?_
      refine sku 30 35 ?_
      refine sku 31 35 ?_
      refine sku 32 35 ?_
      refine sk 33 32 ?_
      refine tpp 34 ?_
      refine va_done (by kernel_rfl) ?_
      refine vc_then ?_
      refine vc_condT rfl ?_
      refine vc_seq ?_
      refine vc_region ?_
      refine vp ?_
      refine vc_nil ?_
      refine vc_then ?_
      refine vc_ret ?_
      refine vc_inRet ?_
      refine vc_thenRet ?_
      refine vc_thenRet ?_
      refine vc_inRet ?_
      refine vc_thenRet ?_
      exact vc_end1 Tryz.results34 rfl _ (ent_pick [1] rfl) ⟨by first | (unfold mayW; rw [hch, List.drop_length, show mayFrom (lastK ws ws.length) [] = true from rfl, Bool.true_and]) | (unfold mayW; rw [hch2, hwr]; rfl) | (unfold mayW; rw [hch2, hls]; simp [lkLt, hlt]), rfl⟩
     ·skip
      have hvr : valRight ws[i].val = true := notF c22
      refine tg 11 22 rfl (by exact y_fieldP fl_97_1 1 rfl rfl) ?_
      refine tkg 12 22 rfl (by exact y_load1 0 rfl one_4 rfl (Pts.vis rfl)) ?_
      refine tgp 13 22 ?_
      first | refine va_splitP 25 rfl (fun c25 => ?_) (fun c25 => ?_) | refine va_splitN 25 rfl (fun c25 => ?_) (fun c25 => ?_) | refine va_split 25 rfl (fun c25 => ?_) (fun c25 => ?_)
      ·skip
       refine tg 14 25 rfl (by exact y_fieldP fl_97_2 2 rfl rfl) ?_
       refine tkg 15 25 rfl (by exact y_loadA 0 rfl (cs := [_, _, _]) ag_45 rfl (Pts.visA rfl)) ?_
       refine tg 16 25 rfl (by exact y_build [] [_, _, _] rfl (bu_45_n  )) ?_
       refine tg 17 25 rfl (by exact y_neS eg_45 (eqv_45 _ _ _ _ _ _) rfl rfl) ?_
       refine tgp 18 22 ?_
       refine tpp 19 ?_
       refine tpp 20 ?_
       first | refine va_splitP 32 rfl (fun c32 => ?_) (fun c32 => ?_) | refine va_splitN 32 rfl (fun c32 => ?_) (fun c32 => ?_) | refine va_split 32 rfl (fun c32 => ?_) (fun c32 => ?_)
       ·skip
        have hz : valEq ws[i].val val0 = false := notT c32
        have hwr : wrRight ws[i] = false := by simp [wrRight, hz, show ws[i].gone = true from c25]
        refine sk 21 32 ?_
        refine sk 22 32 ?_
        refine sk 23 32 ?_
        refine sku 24 35 ?_
        refine sku 25 35 ?_
        refine sku 26 35 ?_
        refine sku 27 35 ?_
        refine sku 28 35 ?_
        refine sku 29 35 ?_
        refine sku 30 35 ?_
        refine sku 31 35 ?_
        refine sku 32 35 ?_
        refine sk 33 32 ?_
        refine tpp 34 ?_
        refine va_done (by kernel_rfl) ?_
        refine vc_then ?_
        refine vc_condT rfl ?_
        refine vc_seq ?_
        refine vc_region ?_
        refine vp ?_
        refine vc_nil ?_
        refine vc_then ?_
        refine vc_ret ?_
        refine vc_inRet ?_
        refine vc_thenRet ?_
        refine vc_thenRet ?_
        refine vc_inRet ?_
        refine vc_thenRet ?_
        exact vc_end1 Tryz.results34 rfl _ (ent_pick [1] rfl) ⟨by first | (unfold mayW; rw [hch, List.drop_length, show mayFrom (lastK ws ws.length) [] = true from rfl, Bool.true_and]) | (unfold mayW; rw [hch2, hwr]; rfl) | (unfold mayW; rw [hch2, hls]; simp [lkLt, hlt]), rfl⟩
       ·skip
        have hz : valEq ws[i].val val0 = true := notF c32
        have hwr : wrRight ws[i] = true := by simp [wrRight, hk, hvr, hz]
        refine tgp 21 32 ?_
        refine tgp 22 32 ?_
        refine tgp 23 32 ?_
        first | refine va_splitP 35 rfl (fun c35 => ?_) (fun c35 => ?_) | refine va_splitN 35 rfl (fun c35 => ?_) (fun c35 => ?_) | refine va_split 35 rfl (fun c35 => ?_) (fun c35 => ?_)
        ·skip
         have hls := lastK_pos (xs := ws) (i := i) (by omega) (by omega)
         refine tgp 24 35 ?_
         refine tgp 25 35 ?_
         first | refine tg 26 35 rfl (by exact y_arith _ rfl (wrapNsub (by omega))) ?_ | refine tg 26 35 rfl (by exact y_arith _ rfl (wrap64 (by omega) (by omega))) ?_ | refine tgp 26 35 ?_
         refine tkg 27 35 rfl (by exact y_elem 1 rfl (hv) (i - 1) rfl (by omega) sl_35 rfl rfl) ?_
         refine tg 28 35 rfl (by exact y_fieldE fl_97_0 0 rfl rfl) ?_
         refine tkg 29 35 rfl (by exact y_load1 1 rfl one_9 rfl (Rd.vis1 (hv) (List.getElem?_eq_getElem (by first | assumption | omega)) rfl)) ?_
         refine tg 30 35 rfl (by exact y_fieldP fl_97_0 0 rfl rfl) ?_
         refine tkg 31 35 rfl (by exact y_load1 0 rfl one_9 rfl (Pts.vis rfl)) ?_
         refine tgp 32 35 ?_
         refine tgp 33 32 ?_
         refine tpp 34 ?_
         refine va_done (by kernel_rfl) ?_
         refine vc_then ?_
         first | refine vc_condP rfl (fun c46 => ?_) (fun c46 => ?_) | refine vc_condN rfl (fun c46 => ?_) (fun c46 => ?_) | refine vc_cond rfl (fun c46 => ?_) (fun c46 => ?_)
         ·skip
          have hlt : sLt (ws[i - 1]'(by omega)).key ws[i].key = false := notT c46
          refine vc_seq ?_
          refine vc_region ?_
          refine vp ?_
          refine vc_nil ?_
          refine vc_then ?_
          refine vc_ret ?_
          refine vc_inRet ?_
          refine vc_thenRet ?_
          refine vc_thenRet ?_
          refine vc_inRet ?_
          refine vc_thenRet ?_
          exact vc_end1 Tryz.results34 rfl _ (ent_pick [1] rfl) ⟨by first | (unfold mayW; rw [hch, List.drop_length, show mayFrom (lastK ws ws.length) [] = true from rfl, Bool.true_and]) | (unfold mayW; rw [hch2, hwr]; rfl) | (unfold mayW; rw [hch2, hls]; simp [lkLt, hlt]), rfl⟩
         ·skip
          have hlt : sLt (ws[i - 1]'(by omega)).key ws[i].key = true := notF c46
          refine vc_skip ?_
          refine vc_inNormal ?_
          refine vc_then ?_
          refine vc_region ?_
          first | refine vc_y (y_arith _ rfl (wrapNadd (by omega))) rfl ?_ | refine vc_y (y_arith _ rfl (wrap64 (by omega) (by omega))) rfl ?_ | refine vp ?_
          refine vp ?_
          refine vc_nil ?_
          refine vc_then ?_
          exact vc_again (x := i) (i + 1) ⟨hi2, by rw [hch2, lastK_succ hi2, hwr, hls]; simp [lkLt, *]⟩ (by show ws.length - (i + 1) < ws.length - i; omega) ⟨rfl, rfl, rfl, rfl, trivial⟩ (ent_pick [1] rfl)
        ·skip
         have hls : lastK ws i = none := by
          obtain rfl : i = 0 := by omega
          rfl
         refine sk 24 35 ?_
         refine sk 25 35 ?_
         refine sk 26 35 ?_
         refine sk 27 35 ?_
         refine sk 28 35 ?_
         refine sk 29 35 ?_
         refine sk 30 35 ?_
         refine sk 31 35 ?_
         refine sk 32 35 ?_
         refine tgp 33 32 ?_
         refine tpp 34 ?_
         refine va_done (by kernel_rfl) ?_
         refine vc_then ?_
         refine vc_condF rfl ?_
         refine vc_skip ?_
         refine vc_inNormal ?_
         refine vc_then ?_
         refine vc_region ?_
         first | refine vc_y (y_arith _ rfl (wrapNadd (by omega))) rfl ?_ | refine vc_y (y_arith _ rfl (wrap64 (by omega) (by omega))) rfl ?_ | refine vp ?_
         refine vp ?_
         refine vc_nil ?_
         refine vc_then ?_
         exact vc_again (x := i) (i + 1) ⟨hi2, by rw [hch2, lastK_succ hi2, hwr, hls]; simp [lkLt, *]⟩ (by show ws.length - (i + 1) < ws.length - i; omega) ⟨rfl, rfl, rfl, rfl, trivial⟩ (ent_pick [1] rfl)
      ·skip
       have hwr : wrRight ws[i] = true := by simp [wrRight, hk, hvr, show ws[i].gone = false from c25]
       refine sk 14 25 ?_
       refine sk 15 25 ?_
       refine sk 16 25 ?_
       refine sk 17 25 ?_
       refine tgp 18 22 ?_
       refine tpp 19 ?_
       refine tpp 20 ?_
       refine tgp 21 32 ?_
       refine tgp 22 32 ?_
       refine tgp 23 32 ?_
       first | refine va_splitP 35 rfl (fun c35 => ?_) (fun c35 => ?_) | refine va_splitN 35 rfl (fun c35 => ?_) (fun c35 => ?_) | refine va_split 35 rfl (fun c35 => ?_) (fun c35 => ?_)
       ·skip
        have hls := lastK_pos (xs := ws) (i := i) (by omega) (by omega)
        refine tgp 24 35 ?_
        refine tgp 25 35 ?_
        first | refine tg 26 35 rfl (by exact y_arith _ rfl (wrapNsub (by omega))) ?_ | refine tg 26 35 rfl (by exact y_arith _ rfl (wrap64 (by omega) (by omega))) ?_ | refine tgp 26 35 ?_
        refine tkg 27 35 rfl (by exact y_elem 1 rfl (hv) (i - 1) rfl (by omega) sl_35 rfl rfl) ?_
        refine tg 28 35 rfl (by exact y_fieldE fl_97_0 0 rfl rfl) ?_
        refine tkg 29 35 rfl (by exact y_load1 1 rfl one_9 rfl (Rd.vis1 (hv) (List.getElem?_eq_getElem (by first | assumption | omega)) rfl)) ?_
        refine tg 30 35 rfl (by exact y_fieldP fl_97_0 0 rfl rfl) ?_
        refine tkg 31 35 rfl (by exact y_load1 0 rfl one_9 rfl (Pts.vis rfl)) ?_
        refine tgp 32 35 ?_
        refine tgp 33 32 ?_
        refine tpp 34 ?_
        refine va_done (by kernel_rfl) ?_
        refine vc_then ?_
        first | refine vc_condP rfl (fun c46 => ?_) (fun c46 => ?_) | refine vc_condN rfl (fun c46 => ?_) (fun c46 => ?_) | refine vc_cond rfl (fun c46 => ?_) (fun c46 => ?_)
        ·skip
         have hlt : sLt (ws[i - 1]'(by omega)).key ws[i].key = false := notT c46
         refine vc_seq ?_
         refine vc_region ?_
         refine vp ?_
         refine vc_nil ?_
         refine vc_then ?_
         refine vc_ret ?_
         refine vc_inRet ?_
         refine vc_thenRet ?_
         refine vc_thenRet ?_
         refine vc_inRet ?_
         refine vc_thenRet ?_
         exact vc_end1 Tryz.results34 rfl _ (ent_pick [1] rfl) ⟨by first | (unfold mayW; rw [hch, List.drop_length, show mayFrom (lastK ws ws.length) [] = true from rfl, Bool.true_and]) | (unfold mayW; rw [hch2, hwr]; rfl) | (unfold mayW; rw [hch2, hls]; simp [lkLt, hlt]), rfl⟩
        ·skip
         have hlt : sLt (ws[i - 1]'(by omega)).key ws[i].key = true := notF c46
         refine vc_skip ?_
         refine vc_inNormal ?_
         refine vc_then ?_
         refine vc_region ?_
         first | refine vc_y (y_arith _ rfl (wrapNadd (by omega))) rfl ?_ | refine vc_y (y_arith _ rfl (wrap64 (by omega) (by omega))) rfl ?_ | refine vp ?_
         refine vp ?_
         refine vc_nil ?_
         refine vc_then ?_
         exact vc_again (x := i) (i + 1) ⟨hi2, by rw [hch2, lastK_succ hi2, hwr, hls]; simp [lkLt, *]⟩ (by show ws.length - (i + 1) < ws.length - i; omega) ⟨rfl, rfl, rfl, rfl, trivial⟩ (ent_pick [1] rfl)
       ·skip
        have hls : lastK ws i = none := by
         obtain rfl : i = 0 := by omega
         rfl
        refine sk 24 35 ?_
        refine sk 25 35 ?_
        refine sk 26 35 ?_
        refine sk 27 35 ?_
        refine sk 28 35 ?_
        refine sk 29 35 ?_
        refine sk 30 35 ?_
        refine sk 31 35 ?_
        refine sk 32 35 ?_
        refine tgp 33 32 ?_
        refine tpp 34 ?_
        refine va_done (by kernel_rfl) ?_
        refine vc_then ?_
        refine vc_condF rfl ?_
        refine vc_skip ?_
        refine vc_inNormal ?_
        refine vc_then ?_
        refine vc_region ?_
        first | refine vc_y (y_arith _ rfl (wrapNadd (by omega))) rfl ?_ | refine vc_y (y_arith _ rfl (wrap64 (by omega) (by omega))) rfl ?_ | refine vp ?_
        refine vp ?_
        refine vc_nil ?_
        refine vc_then ?_
        exact vc_again (x := i) (i + 1) ⟨hi2, by rw [hch2, lastK_succ hi2, hwr, hls]; simp [lkLt, *]⟩ (by show ws.length - (i + 1) < ws.length - i; omega) ⟨rfl, rfl, rfl, rfl, trivial⟩ (ent_pick [1] rfl)
    exact vo_nil
  exact vo_nil
 ·skip
  obtain rfl : i = ws.length := by omega
  refine vc_exit ?_
  refine vc_thenExit ?_
  refine vc_thenExit ?_
  refine vc_inExit ?_
  refine vc_then ?_
  refine vc_seq ?_
  refine vc_region ?_
  refine vp ?_
  refine vc_y (y_len Tryz.underlying35 rfl (by first | assumption | rfl)) rfl ?_
  refine vc_callv ca_84 (us := []) (vs := []) rfl [_, _, _] rfl [] rfl (within_spec _ _ _) rfl ?_
  rintro _ _ ⟨rfl, rfl⟩
  refine vp ?_
  refine vc_nil ?_
  refine vc_then ?_
  refine vc_ret ?_
  exact vc_end1 Tryz.results34 rfl _ (ent_pick [0] rfl) ⟨by first | (unfold mayW; rw [hch, List.drop_length, show mayFrom (lastK ws ws.length) [] = true from rfl, Bool.true_and]) | (unfold mayW; rw [hch2, hwr]; rfl) | (unfold mayW; rw [hch2, hls]; simp [lkLt, hlt]), rfl⟩
theorem rspace0 {b : Nat} {X : RmX} {I : RmI} (rel : RmRel X I) (ok : X.ok) {A : HP} {h : SH} {ws : List Wr} (hv : Vis A (Rd eWr h ws)) (hws : ws.length ≤ 16 ∧ ∀ w ∈ ws, w.key.size ≤ 32) : Does Tryz.prog 71 [.pointer (some ⟨b, 0, none⟩), h.v] (RmO b X I ++ [A]) (fun v l => v = .int .i64 (spaceE X ws) ∧ l = RmO b X I ++ [A]) := by
 refine spec_of Tryz.func71 rfl Tryz.ntmps71 Tryz.results71 _ (by simp) fun ι F => ?_
 obtain ⟨hml, hmk⟩ := hws
 have hlv := ok.live
 have hle := ok.le
 have hmo := ok.mo
 have hqq := ok.q
 refine vc_see 7 rfl (hv.imp fun w r => r.len) (fun hlen => ?_)
 refine vc_seq ?_
 refine vc_region ?_
 refine vp ?_
 refine vc_nil ?_
 refine vc_then ?_
 refine vc_seq ?_
 refine vc_seq ?_
 refine vc_draw (by kernel_rfl) _ none [0] rfl ?_
 refine tpp 0 ?_
 refine tpp 2 ?_
 refine tpp 3 ?_
 refine tp 4 rfl (by exact y_fieldP fl_132_0 0 rfl rfl) ?_
 refine tp 5 rfl (by exact y_fieldP fl_24_3 3 rfl rfl) ?_
 refine tk 6 rfl (by exact y_load1 0 rfl one_3 rfl (Pts.vis rfl)) ?_
 refine va_ready [1] (by kernel_rfl) rfl ?_
 refine vo_cons rfl (fun hC0 => ?_) ?_
 ·skip
  refine vc_callv ca_16 (us := []) (vs := []) rfl [_] rfl [0, 0, 0, 0, 0, 0, 0] rfl (rseq0 rel ok) rfl ?_
  rintro _ _ ⟨rfl, rfl⟩
  refine vc_nil ?_
  refine vc_then ?_
  refine va_kept hC0 [0] rfl ?_
  clear hC0
  refine tpp 7 ?_
  refine va_done (by kernel_rfl) ?_
  refine vc_then ?_
  first | refine vc_condP rfl (fun c15 => ?_) (fun c15 => ?_) | refine vc_condN rfl (fun c15 => ?_) (fun c15 => ?_) | refine vc_cond rfl (fun c15 => ?_) (fun c15 => ?_)
  ·skip
   refine vc_seq ?_
   refine vc_region ?_
   refine vp ?_
   refine vc_nil ?_
   refine vc_then ?_
   refine vc_ret ?_
   refine vc_thenRet ?_
   exact vc_end1 Tryz.results71 rfl _ (ent_pick [0, 0, 0, 0, 0, 0, 0, 0] rfl) ⟨by simp only [spaceE]; rw [if_pos c15], rfl⟩
  ·skip
   refine vc_skip ?_
   refine vc_then ?_
   refine vc_seq ?_
   refine vc_region ?_
   refine vp ?_
   refine vp ?_
   refine vc_y (y_fieldP fl_132_5 8 rfl rfl) rfl ?_
   refine vc_y (y_load1 0 rfl one_3 rfl (Pts.vis rfl)) rfl ?_
   refine vp ?_
   refine vc_nil ?_
   refine vc_then ?_
   refine vc_seq ?_
   refine vc_seq ?_
   refine vc_region ?_
   refine vc_keep [(0, .pointer (some ⟨b, 0, none⟩)), (1, h.v), (5, .int .i64 (liveM X.M + addW X.M (ws.take 0)))] ⟨rfl, rfl, by simp only [List.take_zero, addW, Int.add_zero]; rfl, trivial⟩ ?_
   refine vp ?_
   refine vc_y (y_len Tryz.underlying35 rfl (by first | assumption | rfl)) rfl ?_
   refine vp ?_
   refine vc_nil ?_
   refine vc_then ?_
   refine vc_block ?_
   refine vc_loop (α := Nat) (fun xq_ => match xq_ with | i => [(0, .pointer (some ⟨b, 0, none⟩)), (1, h.v), (5, .int .i64 (liveM X.M + addW X.M (ws.take i))), (20, h.v), (21, .int .i64 (ws.length : Int)), (22, .int .i64 (i : Int))]) (fun xq_ => match xq_ with | i => RmO b X I ++ [A]) (fun xq_ => match xq_ with | i => ws.length - i) (fun xq_ => match xq_ with | i => i ≤ ws.length) 0 (Nat.zero_le _) ⟨rfl, rfl, rfl, rfl, rfl, rfl, trivial⟩ (ent_pick [0, 0, 0, 0, 0, 0, 0, 0] rfl) ?_
   rintro i hi
   show VC _ _ _ _ [(0, .pointer (some ⟨b, 0, none⟩)), (1, h.v), (5, .int .i64 (liveM X.M + addW X.M (ws.take i))), (20, h.v), (21, .int .i64 (ws.length : Int)), (22, .int .i64 (i : Int))] (RmO b X I ++ [A])
   refine vc_seq ?_
   refine vc_region ?_
   refine vp ?_
   refine vc_nil ?_
   refine vc_then ?_
   refine vc_seq ?_
   first | refine vc_condP rfl (fun c23 => ?_) (fun c23 => ?_) | refine vc_condN rfl (fun c23 => ?_) (fun c23 => ?_) | refine vc_cond rfl (fun c23 => ?_) (fun c23 => ?_)
   ·skip
    have hi2 : i < ws.length := by omega
    have hab := addW_bound (M := X.M) (ws := ws.take i) (fun w hw => hmk w (List.mem_of_mem_take hw))
    rw [List.length_take_of_le (by omega)] at hab
    have hki := hmk _ (List.getElem_mem hi2)
    have hll := lives_le (chainM X.M ws[i].key) hki
    have hvw := vWeight_le ws[i].val
    have hvo := rel.vis ws[i].key
    have hch := ok.chain ws[i].key
    have hsu := addW_succ (M := X.M) hi2
    refine vc_skip ?_
    refine vc_then ?_
    refine vc_seq ?_
    refine vc_block ?_
    refine vc_seq ?_
    refine vc_region ?_
    refine vc_y (y_elem 7 rfl (hv) i rfl hi2 sl_35 rfl rfl) rfl ?_
    refine vc_y (y_loadA 7 rfl (cs := [_, _, _, _, _]) ag_97 rfl (Rd.visA (hv) (List.getElem?_eq_getElem (by first | assumption | omega)) rfl)) rfl ?_
    refine vc_alloc [.string ⟨#[]⟩, .bool false, .bool false, .string ⟨#[]⟩, .int .u64 0] ze_97 rfl rfl (fun b7 => ?_)
    refine vc_storeP 0 rfl [_, _, _, _, _] [_, _, _, _, _] rfl rfl rfl sz_97 rfl rfl rfl ?_
    refine vc_nil ?_
    refine vc_then ?_
    refine vc_seq ?_
    refine vc_draw (by kernel_rfl) _ none [0] rfl ?_
    refine tpp 0 ?_
    refine tp 1 rfl (by exact y_fieldP fl_97_0 0 rfl rfl) ?_
    refine tk 2 rfl (by exact y_load1 0 rfl one_9 rfl (Pts.vis rfl)) ?_
    refine tpp 3 ?_
    refine tp 4 rfl (by exact y_fieldP fl_97_0 0 rfl rfl) ?_
    refine tk 5 rfl (by exact y_load1 0 rfl one_9 rfl (Pts.vis rfl)) ?_
    refine va_ready [6] (by kernel_rfl) rfl ?_
    refine vo_cons rfl (fun hC0 => ?_) ?_
    ·skip
     refine vc_callv ca_76 (us := []) (vs := []) rfl [_, _] rfl [1, 1, 1, 1, 1, 1, 1] rfl (rchain0 rel ws[i].key) rfl ?_
     rintro _ _ ⟨rfl, rfl⟩
     refine vc_nil ?_
     refine vc_then ?_
     refine va_kept hC0 [7] rfl ?_
     clear hC0
     refine va_ready [7] (by kernel_rfl) rfl ?_
     refine vo_cons rfl (fun hC0 => ?_) ?_
     ·skip
      refine vc_callv ca_120 (us := []) (vs := []) rfl [_, _] rfl [6] rfl (lives_spec hvo (by omega) (by omega)) rfl ?_
      rintro _ _ ⟨rfl, rfl⟩
      refine vc_nil ?_
      refine vc_then ?_
      refine va_kept hC0 [7] rfl ?_
      clear hC0
      first | refine tp 8 rfl (by exact y_arith _ rfl (wrap64 (by omega) (by omega))) ?_ | refine tpp 8 ?_
      refine tpp 9 ?_
      refine va_done (by kernel_rfl) ?_
      refine vc_then ?_
      refine vc_seq ?_
      refine vc_region ?_
      refine vc_y (y_fieldP fl_97_1 1 rfl rfl) rfl ?_
      refine vc_y (y_load1 7 rfl one_4 rfl (Pts.vis rfl)) rfl ?_
      refine vp ?_
      refine vc_nil ?_
      refine vc_then ?_
      first | refine vc_condP rfl (fun c37 => ?_) (fun c37 => ?_) | refine vc_condN rfl (fun c37 => ?_) (fun c37 => ?_) | refine vc_cond rfl (fun c37 => ?_) (fun c37 => ?_)
      ·skip
       have hg : ws[i].gone = false := notT c37
       have hs2 : liveM X.M + addW X.M (ws.take i) - lives ws[i].key (chainM X.M ws[i].key) + ((ws[i].key.size : Int) + vWeight ws[i].val) = liveM X.M + addW X.M (ws.take (i + 1)) := by rw [hsu]; simp only [wAdd, hg, Bool.false_eq_true, if_false]; omega
       refine vc_draw (by kernel_rfl) _ none [7] rfl ?_
       refine tpp 0 ?_
       refine tp 1 rfl (by exact y_fieldP fl_97_0 0 rfl rfl) ?_
       refine tk 2 rfl (by exact y_load1 0 rfl one_9 rfl (Pts.vis rfl)) ?_
       refine tp 3 rfl (by exact y_strLen Tryz.underlying9 rfl) ?_
       refine tp 4 rfl (by exact y_fieldP fl_97_2 2 rfl rfl) ?_
       refine tk 5 rfl (by exact y_loadA 0 rfl (cs := [_, _, _]) ag_45 rfl (Pts.visA rfl)) ?_
       refine va_ready [6] (by kernel_rfl) rfl ?_
       refine vo_cons rfl (fun hC0 => ?_) ?_
       ·skip
        refine vc_callv ca_113 (us := []) (vs := []) rfl [_] rfl [] rfl (vweight_spec ws[i].val) rfl ?_
        rintro _ _ ⟨rfl, rfl⟩
        refine vc_nil ?_
        refine vc_then ?_
        refine va_kept hC0 [7] rfl ?_
        clear hC0
        first | refine tp 7 rfl (by exact y_arith _ rfl (wrap64 (by omega) (by omega))) ?_ | refine tpp 7 ?_
        first | refine tp 8 rfl (by exact y_arith _ rfl (wrap64 (by omega) (by omega))) ?_ | refine tpp 8 ?_
        refine tpp 9 ?_
        refine va_done (by kernel_rfl) ?_
        refine vc_inNormal ?_
        refine vc_then ?_
        refine vc_region ?_
        refine vc_keep [(0, .pointer (some ⟨b, 0, none⟩)), (1, h.v), (5, .int .i64 (liveM X.M + addW X.M (ws.take (i + 1)))), (20, h.v), (21, .int .i64 (ws.length : Int)), (22, .int .i64 (i : Int))] ⟨rfl, rfl, by rw [← hs2]; rfl, rfl, rfl, rfl, trivial⟩ ?_
        first | refine vc_y (y_arith _ rfl (wrapNadd (by omega))) rfl ?_ | refine vc_y (y_arith _ rfl (wrap64 (by omega) (by omega))) rfl ?_ | refine vp ?_
        refine vp ?_
        refine vc_nil ?_
        refine vc_then ?_
        exact vc_again (x := i) (i + 1) hi2 (by show ws.length - (i + 1) < ws.length - i; omega) ⟨rfl, rfl, rfl, rfl, rfl, rfl, trivial⟩ (ent_pick [1, 1, 1, 1, 1, 1, 0, 1] rfl)
       exact vo_nil
      ·skip
       have hg : ws[i].gone = true := notF c37
       have hs2 : liveM X.M + addW X.M (ws.take i) - lives ws[i].key (chainM X.M ws[i].key) = liveM X.M + addW X.M (ws.take (i + 1)) := by rw [hsu]; simp only [wAdd, hg, if_true]; omega
       refine vc_skip ?_
       refine vc_inNormal ?_
       refine vc_then ?_
       refine vc_region ?_
       refine vc_keep [(0, .pointer (some ⟨b, 0, none⟩)), (1, h.v), (5, .int .i64 (liveM X.M + addW X.M (ws.take (i + 1)))), (20, h.v), (21, .int .i64 (ws.length : Int)), (22, .int .i64 (i : Int))] ⟨rfl, rfl, by rw [← hs2]; rfl, rfl, rfl, rfl, trivial⟩ ?_
       first | refine vc_y (y_arith _ rfl (wrapNadd (by omega))) rfl ?_ | refine vc_y (y_arith _ rfl (wrap64 (by omega) (by omega))) rfl ?_ | refine vp ?_
       refine vp ?_
       refine vc_nil ?_
       refine vc_then ?_
       exact vc_again (x := i) (i + 1) hi2 (by show ws.length - (i + 1) < ws.length - i; omega) ⟨rfl, rfl, rfl, rfl, rfl, rfl, trivial⟩ (ent_pick [1, 1, 1, 1, 1, 1, 0, 1] rfl)
     exact vo_nil
    exact vo_nil
   ·skip
    obtain rfl : i = ws.length := by omega
    have hall : liveM X.M + addW X.M (ws.take ws.length) = liveM X.M + addW X.M ws := by rw [List.take_length]
    refine vc_exit ?_
    refine vc_thenExit ?_
    refine vc_thenExit ?_
    refine vc_inExit ?_
    refine vc_then ?_
    refine vc_seq ?_
    refine vc_seq ?_
    refine vc_region ?_
    iterate 3 refine vp ?_
    refine vc_y (y_fieldP fl_132_0 0 rfl rfl) rfl ?_
    refine vc_y (y_fieldP fl_24_2 2 rfl rfl) rfl ?_
    refine vc_y (y_load1 0 rfl one_3 rfl (Pts.vis rfl)) rfl ?_
    refine vp ?_
    refine vc_nil ?_
    refine vc_then ?_
    first | refine vc_condP rfl (fun c54 => ?_) (fun c54 => ?_) | refine vc_condN rfl (fun c54 => ?_) (fun c54 => ?_) | refine vc_cond rfl (fun c54 => ?_) (fun c54 => ?_)
    ·skip
     refine vc_seq ?_
     refine vc_region ?_
     refine vp ?_
     refine vc_nil ?_
     refine vc_then ?_
     refine vc_ret ?_
     refine vc_thenRet ?_
     exact vc_end1 Tryz.results71 rfl _ (ent_pick [0, 0, 0, 0, 0, 0, 0, 0] rfl) ⟨by simp only [spaceE]; rw [if_neg c15, if_pos (by rw [← hall]; exact c54)], rfl⟩
    ·skip
     refine vc_skip ?_
     refine vc_then ?_
     refine vc_seq ?_
     refine vc_region ?_
     refine vp ?_
     refine vc_nil ?_
     refine vc_then ?_
     refine vc_ret ?_
     exact vc_end1 Tryz.results71 rfl _ (ent_pick [0, 0, 0, 0, 0, 0, 0, 0] rfl) ⟨by simp only [spaceE]; rw [if_neg c15, if_neg (by rw [← hall]; exact c54)], rfl⟩
 exact vo_nil
theorem rcheck0 {b : Nat} {X : RmX} {I : RmI} (rel : RmRel X I) (ok : X.ok) {A : HP} {h : SH} {ws : List Wr} (hv : Vis A (Rd eWr h ws)) (hb : ws.length ≤ 1000000) (seq : Int) : Does Tryz.prog 21 [.pointer (some ⟨b, 0, none⟩), h.v, .int .i64 seq] (RmO b X I ++ [A]) (fun v l => v = .int .i64 (checkE X ws seq) ∧ l = RmO b X I ++ [A]) := by
 refine spec_of Tryz.func21 rfl Tryz.ntmps21 Tryz.results21 _ (by simp) fun ι F => ?_
 refine vc_see 7 rfl (hv.imp fun w r => r.len) (fun hlen => ?_)
 refine vc_seq ?_
 refine vc_region ?_
 refine vp ?_
 refine vc_nil ?_
 refine vc_then ?_
 refine vc_seq ?_
 refine vc_block ?_
 refine vc_seq ?_
 refine vc_region ?_
 refine vp ?_
 refine vc_y (y_eqNil ep_28 rfl rfl) rfl ?_
 refine vp ?_
 refine vc_nil ?_
 refine vc_then ?_
 refine vc_condF rfl ?_
 refine vc_seq ?_
 refine vc_region ?_
 refine vp ?_
 refine vc_callv ca_34 (us := []) (vs := []) rfl [_] rfl [7] rfl (rmay_spec hv hb) rfl ?_
 rintro _ _ ⟨rfl, rfl⟩
 refine vp ?_
 refine vp ?_
 refine vc_nil ?_
 refine vc_then ?_
 first | refine vc_condP rfl (fun c14 => ?_) (fun c14 => ?_) | refine vc_condN rfl (fun c14 => ?_) (fun c14 => ?_) | refine vc_cond rfl (fun c14 => ?_) (fun c14 => ?_)
 ·skip
  have hmay : mayW ws = false := notT c14
  refine vc_seq ?_
  refine vc_region ?_
  refine vp ?_
  refine vc_nil ?_
  refine vc_then ?_
  refine vc_ret ?_
  refine vc_inRet ?_
  refine vc_thenRet ?_
  exact vc_end1 Tryz.results21 rfl _ (ent_pick [1, 1, 1, 1, 1, 1, 1, 0] rfl) ⟨by first | (simp only [checkE, hmay, hwi, hcf, conflW, if_true]; rfl) | (simp only [checkE, hmay, hwi, hc2, hvl, decide_eq_true hlt, Bool.true_or, if_true]) | (simp only [checkE, hmay, hwi]; rfl) | (simp only [checkE, hmay]; rfl), rfl⟩
 ·skip
  have hmay : mayW ws = true := notF c14
  have hmm : ws.length ≤ 16 ∧ ∀ w ∈ ws, w.key.size ≤ 32 := by
   have h0 := hmay
   simp only [mayW, Bool.and_eq_true, decide_eq_true_eq] at h0
   exact ⟨by omega, fun w hw => (wr_key (mayFrom_mem h0.1 w hw)).2⟩
  refine vc_seq ?_
  refine vc_region ?_
  refine vp ?_
  refine vp ?_
  refine vc_callv ca_18 (us := []) (vs := []) rfl [_] rfl [1, 1, 1, 1, 1, 1, 1] rfl (rfloor0 rel ok) rfl ?_
  rintro _ _ ⟨rfl, rfl⟩
  refine vp ?_
  refine vc_callv ca_16 (us := []) (vs := []) rfl [_] rfl [0, 0, 0, 0, 0, 0, 0] rfl (rseq0 rel ok) rfl ?_
  rintro _ _ ⟨rfl, rfl⟩
  refine vc_callv ca_84 (us := []) (vs := []) rfl [_, _, _] rfl [] rfl (within_spec _ _ _) rfl ?_
  rintro _ _ ⟨rfl, rfl⟩
  refine vp ?_
  refine vp ?_
  refine vc_nil ?_
  refine vc_then ?_
  first | refine vc_condP rfl (fun c18 => ?_) (fun c18 => ?_) | refine vc_condN rfl (fun c18 => ?_) (fun c18 => ?_) | refine vc_cond rfl (fun c18 => ?_) (fun c18 => ?_)
  ·skip
   have hwi : (decide (X.R.floor ≤ seq) && decide (seq ≤ X.R.seq)) = false := notT c18
   refine vc_seq ?_
   refine vc_region ?_
   refine vp ?_
   refine vc_nil ?_
   refine vc_then ?_
   refine vc_ret ?_
   refine vc_inRet ?_
   refine vc_thenRet ?_
   exact vc_end1 Tryz.results21 rfl _ (ent_pick [0, 0, 0, 0, 0, 0, 0, 0] rfl) ⟨by first | (simp only [checkE, hmay, hwi, hcf, conflW, if_true]; rfl) | (simp only [checkE, hmay, hwi, hc2, hvl, decide_eq_true hlt, Bool.true_or, if_true]) | (simp only [checkE, hmay, hwi]; rfl) | (simp only [checkE, hmay]; rfl), rfl⟩
  ·skip
   have hwi : (decide (X.R.floor ≤ seq) && decide (seq ≤ X.R.seq)) = true := notF c18
   refine vc_skip ?_
   refine vc_inNormal ?_
   refine vc_then ?_
   refine vc_seq ?_
   refine vc_seq ?_
   refine vc_region ?_
   refine vp ?_
   refine vc_y (y_len Tryz.underlying35 rfl (by first | assumption | rfl)) rfl ?_
   refine vp ?_
   refine vc_nil ?_
   refine vc_then ?_
   refine vc_block ?_
   refine vc_loop (α := Nat) (fun xq_ => match xq_ with | i => [(0, .pointer (some ⟨b, 0, none⟩)), (1, h.v), (2, .int .i64 seq), (26, h.v), (27, .int .i64 (ws.length : Int)), (28, .int .i64 (i : Int))]) (fun xq_ => match xq_ with | i => RmO b X I ++ [A]) (fun xq_ => match xq_ with | i => ws.length - i) (fun xq_ => match xq_ with | i => i ≤ ws.length ∧ conflW X.M seq ws = conflW X.M seq (ws.drop i)) 0 ⟨Nat.zero_le _, rfl⟩ ⟨rfl, rfl, rfl, rfl, rfl, rfl, trivial⟩ (ent_pick [0, 0, 0, 0, 0, 0, 0, 0] rfl) ?_
   rintro i ⟨hi, hcf⟩
   show VC _ _ _ _ [(0, .pointer (some ⟨b, 0, none⟩)), (1, h.v), (2, .int .i64 seq), (26, h.v), (27, .int .i64 (ws.length : Int)), (28, .int .i64 (i : Int))] (RmO b X I ++ [A])
   refine vc_seq ?_
   refine vc_region ?_
   refine vp ?_
   refine vc_nil ?_
   refine vc_then ?_
   refine vc_seq ?_
   first | refine vc_condP rfl (fun c29 => ?_) (fun c29 => ?_) | refine vc_condN rfl (fun c29 => ?_) (fun c29 => ?_) | refine vc_cond rfl (fun c29 => ?_) (fun c29 => ?_)
   ·skip
    have hi2 : i < ws.length := by omega
    have hvo := rel.vis ws[i].key
    have hch := ok.chain ws[i].key
    have hc2 : conflW X.M seq ws = ((match verLast (chainM X.M ws[i].key) with | some v => decide (seq < v.seq) | none => false) || conflW X.M seq (ws.drop (i + 1))) := by rw [hcf, List.drop_eq_getElem_cons hi2]; rfl
    refine vc_skip ?_
    refine vc_then ?_
    refine vc_seq ?_
    refine vc_block ?_
    refine vc_seq ?_
    refine vc_region ?_
    refine vc_y (y_elem 7 rfl (hv) i rfl hi2 sl_35 rfl rfl) rfl ?_
    refine vc_y (y_loadA 7 rfl (cs := [_, _, _, _, _]) ag_97 rfl (Rd.visA (hv) (List.getElem?_eq_getElem (by first | assumption | omega)) rfl)) rfl ?_
    refine vc_alloc [.string ⟨#[]⟩, .bool false, .bool false, .string ⟨#[]⟩, .int .u64 0] ze_97 rfl rfl (fun b8 => ?_)
    refine vc_storeP 0 rfl [_, _, _, _, _] [_, _, _, _, _] rfl rfl rfl sz_97 rfl rfl rfl ?_
    refine vc_nil ?_
    refine vc_then ?_
    refine vc_seq ?_
    refine vc_region ?_
    refine vp ?_
    refine vc_y (y_fieldP fl_97_0 0 rfl rfl) rfl ?_
    refine vc_y (y_load1 0 rfl one_9 rfl (Pts.vis rfl)) rfl ?_
    refine vc_callv ca_76 (us := []) (vs := []) rfl [_, _] rfl [1, 1, 1, 1, 1, 1, 1] rfl (rchain0 rel ws[i].key) rfl ?_
    rintro _ _ ⟨rfl, rfl⟩
    refine vc_callv ca_85 (us := []) (vs := []) rfl [_] rfl [6] rfl (Last_spec hvo (by omega)) rfl ?_
    rintro _ _ ⟨rfl, rfl⟩
    iterate 3 refine vp ?_
    refine vc_alloc [.int .i64 0, .bool false, .bool false, .string ⟨#[]⟩, .int .u64 0] ze_135 rfl rfl (fun b9 => ?_)
    refine vc_storeP 0 rfl [_, _, _, _, _] [_, _, _, _, _] rfl rfl rfl sz_135 rfl rfl rfl ?_
    refine vp ?_
    refine vc_nil ?_
    refine vc_then ?_
    refine vc_seq ?_
    refine vc_region ?_
    refine vp ?_
    refine vp ?_
    first | refine vc_splitP 41 rfl (fun c41 => ?_) (fun c41 => ?_) | refine vc_splitN 41 rfl (fun c41 => ?_) (fun c41 => ?_) | refine vc_split 41 rfl (fun c41 => ?_) (fun c41 => ?_)
    ·skip
     obtain ⟨v, hvl⟩ : ∃ v, verLast (chainM X.M ws[i].key) = some v := by
      cases h0 : verLast (chainM X.M ws[i].key) with
      | none => rw [h0] at c41; cases c41
      | some v => exact ⟨v, rfl⟩
     rw [hvl]
     refine vc_guardT 41 rfl rfl ?_
     refine vc_y (y_fieldP fl_135_0 0 rfl rfl) rfl ?_
     refine vc_guardT 41 rfl rfl ?_
     refine vc_y (y_load1 0 rfl one_3 rfl (Pts.vis rfl)) rfl ?_
     refine vc_guardT 41 rfl rfl ?_
     refine vp ?_
     refine vc_guardT 41 rfl rfl ?_
     refine vp ?_
     refine vp ?_
     refine vc_nil ?_
     refine vc_then ?_
     first | refine vc_condP rfl (fun c46 => ?_) (fun c46 => ?_) | refine vc_condN rfl (fun c46 => ?_) (fun c46 => ?_) | refine vc_cond rfl (fun c46 => ?_) (fun c46 => ?_)
     ·skip
      have hlt : seq < v.seq := c46
      refine vc_seq ?_
      refine vc_region ?_
      refine vp ?_
      refine vc_nil ?_
      refine vc_then ?_
      refine vc_ret ?_
      refine vc_inRet ?_
      refine vc_thenRet ?_
      refine vc_thenRet ?_
      refine vc_inRet ?_
      refine vc_thenRet ?_
      exact vc_end1 Tryz.results21 rfl _ (ent_pick [2, 2, 2, 2, 2, 2, 1, 2] rfl) ⟨by first | (simp only [checkE, hmay, hwi, hcf, conflW, if_true]; rfl) | (simp only [checkE, hmay, hwi, hc2, hvl, decide_eq_true hlt, Bool.true_or, if_true]) | (simp only [checkE, hmay, hwi]; rfl) | (simp only [checkE, hmay]; rfl), rfl⟩
     ·skip
      have hlt : ¬ seq < v.seq := c46
      refine vc_skip ?_
      refine vc_inNormal ?_
      refine vc_then ?_
      refine vc_region ?_
      first | refine vc_y (y_arith _ rfl (wrapNadd (by omega))) rfl ?_ | refine vc_y (y_arith _ rfl (wrap64 (by omega) (by omega))) rfl ?_ | refine vp ?_
      refine vp ?_
      refine vc_nil ?_
      refine vc_then ?_
      exact vc_again (x := i) (i + 1) ⟨hi2, by rw [hc2, hvl]; simp [*]⟩ (by show ws.length - (i + 1) < ws.length - i; omega) ⟨rfl, rfl, rfl, rfl, rfl, rfl, trivial⟩ (ent_pick [2, 2, 2, 2, 2, 2, 1, 2] rfl)
    ·skip
     have hvl : verLast (chainM X.M ws[i].key) = none := by
      cases h0 : verLast (chainM X.M ws[i].key) with
      | none => rfl
      | some v => rw [h0] at c41; cases c41
     refine vc_guardF 41 rfl rfl rfl rfl ?_
     refine vc_guardF 41 rfl rfl rfl rfl ?_
     refine vc_guardF 41 rfl rfl rfl rfl ?_
     refine vc_guardF 41 rfl rfl rfl rfl ?_
     refine vp ?_
     refine vc_nil ?_
     refine vc_then ?_
     refine vc_condF rfl ?_
     refine vc_skip ?_
     refine vc_inNormal ?_
     refine vc_then ?_
     refine vc_region ?_
     first | refine vc_y (y_arith _ rfl (wrapNadd (by omega))) rfl ?_ | refine vc_y (y_arith _ rfl (wrap64 (by omega) (by omega))) rfl ?_ | refine vp ?_
     refine vp ?_
     refine vc_nil ?_
     refine vc_then ?_
     exact vc_again (x := i) (i + 1) ⟨hi2, by rw [hc2, hvl]; simp [*]⟩ (by show ws.length - (i + 1) < ws.length - i; omega) ⟨rfl, rfl, rfl, rfl, rfl, rfl, trivial⟩ (ent_pick [2, 2, 2, 2, 2, 2, 1, 2] rfl)
   ·skip
    obtain rfl : i = ws.length := by omega
    rw [List.drop_length] at hcf
    refine vc_exit ?_
    refine vc_thenExit ?_
    refine vc_thenExit ?_
    refine vc_inExit ?_
    refine vc_then ?_
    refine vc_seq ?_
    refine vc_region ?_
    refine vp ?_
    refine vp ?_
    refine vc_callv ca_71 (us := []) (vs := []) rfl [_, _] rfl [0, 0, 0, 0, 0, 0, 0, 0] rfl (rspace0 rel ok hv hmm) rfl ?_
    rintro _ _ ⟨rfl, rfl⟩
    refine vp ?_
    refine vc_nil ?_
    refine vc_then ?_
    refine vc_ret ?_
    exact vc_end1 Tryz.results21 rfl _ (ent_pick [0, 0, 0, 0, 0, 0, 0, 0] rfl) ⟨by first | (simp only [checkE, hmay, hwi, hcf, conflW, if_true]; rfl) | (simp only [checkE, hmay, hwi, hc2, hvl, decide_eq_true hlt, Bool.true_or, if_true]) | (simp only [checkE, hmay, hwi]; rfl) | (simp only [checkE, hmay]; rfl), rfl⟩
theorem rcommit0 {b : Nat} {X : RmX} {I : RmI} (rel : RmRel X I) (ok : X.ok) {A : HP} {h : SH} {ws : List Wr} (hv : Vis A (Rd eWr h ws)) (hb : ws.length ≤ 1000000) (stamp : Int) (hbg : X.R.seq - X.R.begin < 900000) (hle : X.M.length + ws.length ≤ 100000 ∨ mayW ws = false) : Does Tryz.prog 15 [.pointer (some ⟨b, 0, none⟩), h.v, .int .u64 stamp] (RmO b X I ++ [A]) (fun v l => v = .tuple #[.int .i64 (commitX X ws stamp).1, .int .i64 (commitX X ws stamp).2.1] ∧ l = [RoomC b (commitX X ws stamp).2.2, A]) := by
 refine spec_of Tryz.func15 rfl Tryz.ntmps15 Tryz.results15 _ (by simp) fun ι F => ?_
 refine vc_see 7 rfl (hv.imp fun w r => r.len) (fun hlen => ?_)
 refine vc_seq ?_
 refine vc_region ?_
 refine vp ?_
 refine vp ?_
 refine vc_nil ?_
 refine vc_then ?_
 refine vc_seq ?_
 refine vc_block ?_
 refine vc_seq ?_
 refine vc_region ?_
 refine vp ?_
 refine vc_y (y_eqNil ep_28 rfl rfl) rfl ?_
 refine vp ?_
 refine vc_nil ?_
 refine vc_then ?_
 refine vc_condF rfl ?_
 refine vc_seq ?_
 refine vc_region ?_
 refine vp ?_
 refine vc_callv ca_34 (us := []) (vs := []) rfl [_] rfl [7] rfl (rmay_spec hv hb) rfl ?_
 rintro _ _ ⟨rfl, rfl⟩
 refine vp ?_
 refine vp ?_
 refine vc_nil ?_
 refine vc_then ?_
 first | refine vc_condP rfl (fun c17 => ?_) (fun c17 => ?_) | refine vc_condN rfl (fun c17 => ?_) (fun c17 => ?_) | refine vc_cond rfl (fun c17 => ?_) (fun c17 => ?_)
 ·skip
  have hmay : mayW ws = false := notT c17
  have hco : commitX X ws stamp = (0, 1, X) := by simp [commitX, hmay]
  refine vc_seq ?_
  refine vc_region ?_
  refine vp ?_
  refine vp ?_
  refine vc_nil ?_
  refine vc_then ?_
  refine vc_ret ?_
  refine vc_inRet ?_
  refine vc_thenRet ?_
  exact vc_end2 Tryz.results15 rfl rfl _ (ent_at [1, 1, 1, 1, 1, 1, 1, 0] rfl (ent_RmO rel (r := [A]))) ⟨by rw [hco], by rw [hco]⟩
 ·skip
  have hmay : mayW ws = true := notF c17
  have hmm : ws.length ≤ 16 ∧ ∀ w ∈ ws, w.key.size ≤ 32 := by
   have h0 := hmay
   simp only [mayW, Bool.and_eq_true, decide_eq_true_eq] at h0
   exact ⟨by omega, fun w hw => (wr_key (mayFrom_mem h0.1 w hw)).2⟩
  refine vc_skip ?_
  refine vc_inNormal ?_
  refine vc_then ?_
  refine vc_seq ?_
  refine vc_seq ?_
  refine vc_region ?_
  refine vp ?_
  refine vp ?_
  refine vc_callv ca_71 (us := []) (vs := []) rfl [_, _] rfl [1, 1, 1, 1, 1, 1, 1, 0] rfl (rspace0 rel ok hv hmm) rfl ?_
  rintro _ _ ⟨rfl, rfl⟩
  refine vp ?_
  refine vc_nil ?_
  refine vc_then ?_
  refine vc_seq ?_
  refine vc_region ?_
  refine vp ?_
  refine vp ?_
  refine vc_nil ?_
  refine vc_then ?_
  first | refine vc_condP rfl (fun c25 => ?_) (fun c25 => ?_) | refine vc_condN rfl (fun c25 => ?_) (fun c25 => ?_) | refine vc_cond rfl (fun c25 => ?_) (fun c25 => ?_)
  ·skip
   have hsp : spaceE X ws ≠ 0 := by first | exact c25 | simpa using c25
   have hco : commitX X ws stamp = (0, spaceE X ws, X) := by simp [commitX, hmay, hsp]
   refine vc_seq ?_
   refine vc_region ?_
   iterate 3 refine vp ?_
   refine vc_nil ?_
   refine vc_then ?_
   refine vc_ret ?_
   refine vc_thenRet ?_
   exact vc_end2 Tryz.results15 rfl rfl _ (ent_at [0, 0, 0, 0, 0, 0, 0, 0] rfl (ent_RmO rel (r := [A]))) ⟨by rw [hco], by rw [hco]⟩
  ·skip
   have hsp : spaceE X ws = 0 := by first | exact c25 | simpa using c25
   refine vc_skip ?_
   refine vc_then ?_
   refine vc_seq ?_
   refine vc_region ?_
   refine vp ?_
   refine vp ?_
   refine vc_y (y_fieldP fl_132_1 4 rfl rfl) rfl ?_
   refine vc_y (y_load1 0 rfl one_128 rfl (Pts.vis rfl)) rfl ?_
   refine vp ?_
   refine vc_callv ca_72 (us := []) (vs := []) rfl [_, _] rfl [2] rfl (ring_push ok.rg stamp) rfl ?_
   rintro _ _ ⟨rfl, rfl⟩
   iterate 5 refine vp ?_
   refine vc_nil ?_
   refine vc_then ?_
   refine vc_seq ?_
   refine vc_seq ?_
   refine vc_region ?_
   refine vp ?_
   refine vp ?_
   refine vc_nil ?_
   refine vc_then ?_
   first | refine vc_condP rfl (fun c37 => ?_) (fun c37 => ?_) | refine vc_condN rfl (fun c37 => ?_) (fun c37 => ?_) | refine vc_cond rfl (fun c37 => ?_) (fun c37 => ?_)
   ·skip
    have hpe : (pushR X.R stamp).2.1 ≠ 0 := by first | exact c37 | simpa using c37
    have hco : commitX X ws stamp = (0, (pushR X.R stamp).2.1, X) := by simp [commitX, hmay, hsp, hpe]
    have hpR : (pushR X.R stamp).2.2 = X.R := by
     have h0 := hpe
     unfold pushR at h0 ⊢
     split
     ·rfl
     ·split
      ·rfl
      ·rename_i h1 h2; exact absurd (by rw [if_neg h1, if_neg h2]) h0
    refine vc_seq ?_
    refine vc_region ?_
    iterate 3 refine vp ?_
    refine vc_nil ?_
    refine vc_then ?_
    refine vc_ret ?_
    refine vc_thenRet ?_
    exact vc_end2 Tryz.results15 rfl rfl _ (ent_at [1, 1, 0, 0, 0, 0, 0, 0] rfl (ent_RmO (X := ⟨X.label, X.ring, X.quota, X.most, (pushR X.R stamp).2.2, X.M⟩) (I := I) ⟨rel.m, rel.pos, rel.perm, rel.hl, rel.le⟩ (r := [A]))) ⟨by rw [hco], by rw [hco, hpR]⟩
   ·skip
    have hpe : (pushR X.R stamp).2.1 = 0 := by first | exact c37 | simpa using c37
    obtain ⟨R', hR'⟩ : ∃ R', R' = (pushR X.R stamp).2.2 := ⟨_, rfl⟩
    have hps : R'.seq = X.R.seq + 1 ∧ R'.begin = X.R.begin ∧ R'.size = X.R.size ∧ (pushR X.R stamp).1 = R'.seq := by
     rw [hR']
     unfold pushR at hpe ⊢
     split
     ·rename_i h1; rw [if_pos h1] at hpe; cases hpe
     ·split
      ·rename_i h1 h2; rw [if_neg h1, if_pos h2] at hpe; cases hpe
      ·exact ⟨rfl, rfl, rfl, rfl⟩
    have hmf : mayFrom none ws = true := by simp only [mayW, Bool.and_eq_true] at hmay; exact hmay.1
    have hsm : X.R.seq < X.most := by
     unfold spaceE at hsp
     split at hsp
     ·cases hsp
     ·omega
    have hH : PutsH X R' ws := ⟨ok, hR' ▸ push_ok ok.rg stamp, hps.1, hps.2.1, hps.2.2.1, by omega, by omega, hmf, hle.resolve_right (by rw [hmay]; simp)⟩
    have hco : commitX X ws stamp = (R'.seq, 0, ⟨X.label, X.ring, X.quota, X.most, R', mPuts X.M R'.seq ws⟩) := by simp only [commitX, hmay, hsp, hpe, if_true]; rw [hps.2.2.2, ← hR']
    rw [← hR', hps.2.2.2]
    refine vc_skip ?_
    refine vc_then ?_
    refine vc_seq ?_
    refine vc_seq ?_
    refine vc_region ?_
    refine vc_ent (l' := [RoomC b ⟨X.label, X.ring, X.quota, X.most, R', mPuts X.M R'.seq (ws.take 0)⟩, A]) (ent_at [1, 1, 0, 0, 0, 0, 0, 0] rfl (ent_RmO (b := b) (X := ⟨X.label, X.ring, X.quota, X.most, R', mPuts X.M R'.seq (ws.take 0)⟩) (I := I) ⟨rel.m, rel.pos, rel.perm, rel.hl, rel.le⟩ (r := [A]))) ?_
    refine vp ?_
    refine vc_y (y_len Tryz.underlying35 rfl (by first | assumption | rfl)) rfl ?_
    refine vp ?_
    refine vc_nil ?_
    refine vc_then ?_
    refine vc_block ?_
    refine vc_loop (α := Nat) (fun xq_ => match xq_ with | i => [(0, .pointer (some ⟨b, 0, none⟩)), (1, h.v), (9, .int .i64 R'.seq), (39, h.v), (40, .int .i64 (ws.length : Int)), (41, .int .i64 (i : Int))]) (fun xq_ => match xq_ with | i => [RoomC b ⟨X.label, X.ring, X.quota, X.most, R', mPuts X.M R'.seq (ws.take i)⟩, A]) (fun xq_ => match xq_ with | i => ws.length - i) (fun xq_ => match xq_ with | i => i ≤ ws.length ∧ Puts X R' R'.seq ws i) 0 ⟨Nat.zero_le _, hH.zero⟩ ⟨rfl, rfl, rfl, rfl, rfl, rfl, trivial⟩ (ent_pick [0, 0] rfl) ?_
    rintro i ⟨hi, hpi⟩
    show VC _ _ _ _ [(0, .pointer (some ⟨b, 0, none⟩)), (1, h.v), (9, .int .i64 R'.seq), (39, h.v), (40, .int .i64 (ws.length : Int)), (41, .int .i64 (i : Int))] ([RoomC b ⟨X.label, X.ring, X.quota, X.most, R', mPuts X.M R'.seq (ws.take i)⟩, A])
    refine vc_seq ?_
    refine vc_region ?_
    refine vp ?_
    refine vc_nil ?_
    refine vc_then ?_
    refine vc_seq ?_
    first | refine vc_condP rfl (fun c42 => ?_) (fun c42 => ?_) | refine vc_condN rfl (fun c42 => ?_) (fun c42 => ?_) | refine vc_cond rfl (fun c42 => ?_) (fun c42 => ?_)
    ·skip
     have hi2 : i < ws.length := by omega
     refine vc_skip ?_
     refine vc_then ?_
     refine vc_seq ?_
     refine vc_block ?_
     refine vc_seq ?_
     refine vc_region ?_
     refine vc_y (y_elem 1 rfl (hv) i rfl hi2 sl_35 rfl rfl) rfl ?_
     refine vc_y (y_loadA 1 rfl (cs := [_, _, _, _, _]) ag_97 rfl (Rd.visA (hv) (List.getElem?_eq_getElem (by first | assumption | omega)) rfl)) rfl ?_
     refine vc_alloc [.string ⟨#[]⟩, .bool false, .bool false, .string ⟨#[]⟩, .int .u64 0] ze_97 rfl rfl (fun b12 => ?_)
     refine vc_storeP 0 rfl [_, _, _, _, _] [_, _, _, _, _] rfl rfl rfl sz_97 rfl rfl rfl ?_
     refine vc_nil ?_
     refine vc_then ?_
     refine vc_seq ?_
     refine vc_region ?_
     have hrt := hH.right hi2 hpi
     have hln := hpi.len
     have hle2 := hH.le
     refine vc_room 1 rfl (fun J relJ => ?_)
     refine vp ?_
     refine vc_y (y_fieldP fl_97_0 0 rfl rfl) rfl ?_
     refine vc_y (y_load1 7 rfl one_9 rfl (Pts.vis rfl)) rfl ?_
     refine vp ?_
     refine vc_y (y_fieldP fl_97_1 1 rfl rfl) rfl ?_
     refine vc_y (y_load1 7 rfl one_4 rfl (Pts.vis rfl)) rfl ?_
     refine vc_y (y_fieldP fl_97_2 2 rfl rfl) rfl ?_
     refine vc_y (y_loadA 7 rfl (cs := [_, _, _]) ag_45 rfl (Pts.visA rfl)) rfl ?_
     refine vc_y (y_build [(0, _), (1, _), (2, _)] [_, _, _, _, _] rfl (bu_135_0_1_2 _ _ _ _ _ rfl rfl)) rfl ?_
     refine vc_callv ca_73 (us := []) (vs := []) rfl [_, _, _] rfl [0, 0, 0, 0, 0, 0, 0] rfl (rput relJ hpi.ok (hmm.2 _ (List.getElem_mem hi2)) ⟨R'.seq, ws[i].gone, ws[i].val⟩ (by simp only; rw [hrt.1]; exact hrt.2) (by simp only; omega)) rfl ?_
     rintro _ _ ⟨rfl, rfl⟩
     refine vp ?_
     refine vc_nil ?_
     refine vc_then ?_
     refine vc_seq ?_
     refine vc_region ?_
     refine vp ?_
     refine vp ?_
     refine vc_nil ?_
     refine vc_then ?_
     first | refine vc_condP rfl (fun c56 => ?_) (fun c56 => ?_) | refine vc_condN rfl (fun c56 => ?_) (fun c56 => ?_) | refine vc_cond rfl (fun c56 => ?_) (fun c56 => ?_)
     ·skip
      simp at c56
     ·skip
      refine vc_skip ?_
      refine vc_inNormal ?_
      refine vc_then ?_
      refine vc_region ?_
      refine vc_re 0 rfl (congrArg (RoomC b) (congrArg (RmX.mk X.label X.ring X.quota X.most R') (mPuts_succ hi2).symm)) ?_
      first | refine vc_y (y_arith _ rfl (wrapNadd (by omega))) rfl ?_ | refine vc_y (y_arith _ rfl (wrap64 (by omega) (by omega))) rfl ?_ | refine vp ?_
      refine vp ?_
      refine vc_nil ?_
      refine vc_then ?_
      exact vc_again (x := i) (i + 1) ⟨hi2, hH.step hi2 hpi⟩ (by show ws.length - (i + 1) < ws.length - i; omega) ⟨rfl, rfl, rfl, rfl, rfl, rfl, trivial⟩ (ent_pick [0, 1] rfl)
    ·skip
     obtain rfl : i = ws.length := by omega
     rw [List.take_length]
     refine vc_exit ?_
     refine vc_thenExit ?_
     refine vc_thenExit ?_
     refine vc_inExit ?_
     refine vc_then ?_
     refine vc_seq ?_
     refine vc_region ?_
     iterate 3 refine vp ?_
     refine vc_nil ?_
     refine vc_then ?_
     refine vc_ret ?_
     exact vc_end2 Tryz.results15 rfl rfl _ (ent_pick [0, 0] rfl) ⟨by rw [hco], by rw [hco]⟩
theorem room_check {b : Nat} {X : RmX} (ok : X.ok) {A : HP} {h : SH} {ws : List Wr} (hv : Vis A (Rd eWr h ws)) (hb : ws.length ≤ 1000000) (seq : Int) : Does Tryz.prog 21 [.pointer (some ⟨b, 0, none⟩), h.v, .int .i64 seq] [RoomC b X, A] (fun v l => v = .int .i64 (checkE X ws seq) ∧ l = [RoomC b X, A]) :=
 room_does (r := [A]) fun I rel => Does.fin (rcheck0 rel ok hv hb seq) fun v l ⟨e, h⟩ => ⟨_, h ▸ ent_RmO rel (r := [A]), e, rfl⟩
theorem room_commit {b : Nat} {X : RmX} (ok : X.ok) {A : HP} {h : SH} {ws : List Wr} (hv : Vis A (Rd eWr h ws)) (hb : ws.length ≤ 1000000) (stamp : Int) (hbg : X.R.seq - X.R.begin < 900000) (hle : X.M.length + ws.length ≤ 100000 ∨ mayW ws = false) : Does Tryz.prog 15 [.pointer (some ⟨b, 0, none⟩), h.v, .int .u64 stamp] [RoomC b X, A] (fun v l => v = .tuple #[.int .i64 (commitX X ws stamp).1, .int .i64 (commitX X ws stamp).2.1] ∧ l = [RoomC b (commitX X ws stamp).2.2, A]) :=
 room_does (r := [A]) fun I rel => rcommit0 rel ok hv hb stamp hbg hle
end Go.Proofs.YtcpbibdbahfgaaaGreat
