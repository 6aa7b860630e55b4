/-
 Rooms: a version put, what is asked.
-/
import Derived.Test.YtcpbibdbahfgaaaGreatRoom1
set_option linter.unusedVariables false
set_option linter.unusedSimpArgs false
set_option autoImplicit false
set_option maxHeartbeats 4000000
namespace Go.Proofs.YtcpbibdbahfgaaaGreat
open Go.Eng
namespace FRoom2
theorem ag_135 : TyAgg Tryz.prog 135 5 := ⟨⟨_, Tryz.underlying135, rfl⟩, by kernel_rfl⟩
theorem ca_76 : Callable Tryz.prog 76 := ⟨_, _, Tryz.func76, rfl, rfl⟩
theorem ca_123 : Callable Tryz.prog 123 := ⟨_, _, Tryz.func123, rfl, rfl⟩
theorem ca_78 : Callable Tryz.prog 78 := ⟨_, _, Tryz.func78, rfl, rfl⟩
theorem ep_28 : Tryz.prog.underlying 28 = some (.pointer (Tryz.prog.pointee 28)) := by kernel_rfl
theorem fl_132_1 : Fld Tryz.prog 132 1 4 := ⟨_, _, 0, Tryz.underlying132, rfl, rfl, by kernel_rfl⟩
theorem one_128 : TyOne Tryz.prog 128 := ⟨⟨_, Tryz.underlying128, rfl⟩, by kernel_rfl⟩
theorem ca_74 : Callable Tryz.prog 74 := ⟨_, _, Tryz.func74, rfl, rfl⟩
theorem ca_80 : Callable Tryz.prog 80 := ⟨_, _, Tryz.func80, rfl, rfl⟩
theorem fl_132_5 : Fld Tryz.prog 132 5 8 := ⟨_, _, 0, Tryz.underlying132, rfl, rfl, by kernel_rfl⟩
theorem one_3 : TyOne Tryz.prog 3 := ⟨⟨_, Tryz.underlying3, rfl⟩, by kernel_rfl⟩
theorem fl_132_6 : Fld Tryz.prog 132 6 9 := ⟨_, _, 0, Tryz.underlying132, rfl, rfl, by kernel_rfl⟩
theorem fl_132_7 : Fld Tryz.prog 132 7 10 := ⟨_, _, 0, Tryz.underlying132, rfl, rfl, by kernel_rfl⟩
theorem ca_95 : Callable Tryz.prog 95 := ⟨_, _, Tryz.func95, rfl, rfl⟩
theorem ze_45 : (Tryz.prog.info? 45).map (·.zero) = some (some (.agg #[.bool false, .string ⟨#[]⟩, .int .u64 0])) := by kernel_rfl
theorem ca_81 : Callable Tryz.prog 81 := ⟨_, _, Tryz.func81, rfl, rfl⟩
theorem ze_135 : (Tryz.prog.info? 135).map (·.zero) = some (some (.agg #[.int .i64 0, .bool false, .bool false, .string ⟨#[]⟩, .int .u64 0])) := by kernel_rfl
theorem sz_135 : (Tryz.prog.info? 135).map (·.size) = some 5 := by kernel_rfl
theorem fl_135_2 : Fld Tryz.prog 135 2 2 := ⟨_, _, 2, Tryz.underlying135, rfl, rfl, by kernel_rfl⟩
theorem ag_45 : TyAgg Tryz.prog 45 3 := ⟨⟨_, Tryz.underlying45, rfl⟩, by kernel_rfl⟩
theorem sz_45 : (Tryz.prog.info? 45).map (·.size) = some 3 := by kernel_rfl
theorem fl_132_3 : Fld Tryz.prog 132 3 6 := ⟨_, _, 0, Tryz.underlying132, rfl, rfl, by kernel_rfl⟩
theorem one_130 : TyOne Tryz.prog 130 := ⟨⟨_, Tryz.underlying130, rfl⟩, by kernel_rfl⟩
theorem sl_130 : TySl Tryz.prog 130 138 1 := ⟨Tryz.underlying130, by kernel_rfl⟩
theorem one_138 : TyOne Tryz.prog 138 := ⟨⟨_, Tryz.underlying138, rfl⟩, by kernel_rfl⟩
theorem fl_132_2 : Fld Tryz.prog 132 2 5 := ⟨_, _, 0, Tryz.underlying132, rfl, rfl, by kernel_rfl⟩
theorem one_129 : TyOne Tryz.prog 129 := ⟨⟨_, Tryz.underlying129, rfl⟩, by kernel_rfl⟩
theorem ca_82 : Callable Tryz.prog 82 := ⟨_, _, Tryz.func82, rfl, rfl⟩
theorem bu_45_n   (w : World) : (Instr.build 45 #[]).run Tryz.prog w = .ok (.agg #[.bool false, .string ⟨#[]⟩, .int .u64 0]) w := by
 have hz := @ze_45
 exact Go.Eng.run_build (pl := [(0, 1), (1, 1), (2, 1)]) hz Tryz.underlying45 (by kernel_rfl) rfl (by simp [Instr.fill, cells_agg]) w
theorem ca_83 : Callable Tryz.prog 83 := ⟨_, _, Tryz.func83, rfl, rfl⟩
theorem ca_138 : Callable Tryz.prog 138 := ⟨_, _, Tryz.func138, rfl, rfl⟩
end FRoom2
open FRoom2
theorem vc_room {ι : Io} {F : HP} {n : Nat} {ρ : List (Nat × Value)} {l : List HP} {K : Act → World → Prop} (i : Nat) {b : Nat} {X : RmX} (hA : nth l i = some (RoomC b X)) (g : ∀ I, RmRel X I → VC ι F n K ρ (RmO b X I ++ del l i)) : VC ι F n K ρ l := fun a w he hw => by
 have h1 : Holds ι w (sep (RoomC b X) (sep (seps (del l i)) F)) := (hw.ent (Ent.sep (Ent.out hA) Ent.rfl)).ent Ent.assoc
 obtain ⟨g1, g2, r, x, s, x1, x2, hj, ⟨I, y1, y2, hj2, hrel, hy⟩, hf⟩ := h1
 refine g I hrel a w he ?_
 have h2 : Holds ι w (sep (sep (lift (RmRel X I)) (seps (RmO b X I))) (sep (seps (del l i)) F)) := ⟨g1, g2, r, x, s, x1, x2, hj, ⟨y1, y2, hj2, hrel, hy⟩, hf⟩
 exact ((h2.ent (Ent.sep Ent.right Ent.rfl)).ent Ent.assoc').ent (Ent.sep Ent.append' Ent.rfl)
def mPut (M : Mp) (key : ByteArray) (x : Ver) : Mp := if fnd (ks M) key then put1 M key (chainM M key ++ [x]) else ins M key [x]
theorem chainM_none {M : Mp} {key : ByteArray} (h : fnd (ks M) key = false) : chainM M key = [] := by simp [chainM, Eng.look, h]
def valTup (o : Option Ver) : Value := .tuple #[.agg (o.getD ver0).val.cs.toArray, .bool o.isSome]
/-- The first of some that lives. -/
def firstLive : Mp → Int → Option (ByteArray × Ver)
 | [], _ => none
 | p :: r, s => match verAt p.2 s with
  | some v => some (p.1, v)
  | none => firstLive r s
def nextP (M : Mp) (key : ByteArray) (above : Bool) : Nat := if fnd (ks M) key && above then lb (ks M) key + 1 else lb (ks M) key
def liveFrom (M : Mp) (key : ByteArray) (above : Bool) (seq : Int) : Option (ByteArray × Ver) := firstLive (M.drop (nextP M key above)) seq
def keyOf (o : Option (ByteArray × Ver)) : ByteArray := match o with | some p => p.1 | none => ⟨#[]⟩
def valOf (o : Option (ByteArray × Ver)) : Val := match o with | some p => p.2.val | none => val0
def rowTup (o : Option (ByteArray × Ver)) : Value := .tuple #[.string (keyOf o), .agg (valOf o).cs.toArray, .bool o.isSome]
section
variable {X : RmX} {I : RmI}
theorem RmRel.at (rel : RmRel X I) {p : Nat} {q : ByteArray × Int} (h : I.t[p]? = some q) : ∃ c, X.M[p]? = some (q.1, c) ∧ I.cs[q.2.toNat]? = some c ∧ 0 ≤ q.2 ∧ q.2.toNat < I.cs.length := by
 have hm := List.mem_of_getElem? h
 have h1 := rel.pos q hm
 have h2 : q.2.toNat < I.cs.length := (nodup_range_perm rel.perm).2.1 _ (List.mem_append_left _ (List.mem_map.2 ⟨q, hm, rfl⟩))
 refine ⟨I.cs.getD q.2.toNat [], ?_, ?_, h1, h2⟩
 ·rw [rel.m, List.getElem?_map, h]; rfl
 ·rw [List.getD_eq_getElem?_getD, List.getElem?_eq_getElem h2]; rfl
theorem RmRel.len (rel : RmRel X I) : I.t.length = X.M.length := by rw [rel.m]; simp
theorem lb_at {l : List ByteArray} (hr : Rise l) {p : Nat} {k : ByteArray} (h : l[p]? = some k) : lb l k = p ∧ fnd l k = true := by
 have hp := getLt h
 have hk : l[p] = k := by rw [List.getElem?_eq_getElem hp] at h; exact Option.some.inj h
 have h1 : ¬ p < lb l k := fun hq => by
  have := (lb_iff hr k hp).2 hq
  rw [hk, sLt_irrefl] at this; cases this
 have h2 : ¬ lb l k < p := fun hq => by
  have h3 : sLt l[lb l k] l[p] = true := by
   have h4 := hr
   rw [← List.take_append_drop (lb l k + 1) l] at h4
   refine (rise_append.1 h4).2.2 _ ?_ _ ?_
   ·rw [List.mem_take_iff_getElem]; exact ⟨lb l k, by omega, rfl⟩
   ·rw [List.mem_drop_iff_getElem]; exact ⟨p - (lb l k + 1), by omega, by congr 1; omega⟩
  rw [hk] at h3
  have := (lb_iff hr k (show lb l k < l.length by omega)).1 h3
  omega
 have h3 : lb l k = p := by omega
 exact ⟨h3, by simp [fnd, h3, h, sEq_self]⟩
theorem RmRel.next (rel : RmRel X I) (ok : X.ok) {p : Nat} {q : ByteArray × Int} (h : I.t[p]? = some q) : nxt I.t q.1 true = I.t[p + 1]? := by
 have hr : Rise (Eng.ks I.t) := rel.ks ▸ ok.rise
 have hk : (Eng.ks I.t)[p]? = some q.1 := by unfold Eng.ks; rw [List.getElem?_map, h]; rfl
 obtain ⟨h1, h2⟩ := lb_at hr hk
 simp [nxt, h1, h2]
theorem RmRel.nextP (rel : RmRel X I) (key : ByteArray) (ab : Bool) : nxt I.t key ab = I.t[Proofs.YtcpbibdbahfgaaaGreat.nextP X.M key ab]? := by
 unfold nxt Proofs.YtcpbibdbahfgaaaGreat.nextP
 rw [rel.ks]
end
theorem firstLive_at {M : Mp} {p : Nat} {q : ByteArray × List Ver} (h : M[p]? = some q) (s : Int) : firstLive (M.drop p) s = match verAt q.2 s with | some v => some (q.1, v) | none => firstLive (M.drop (p + 1)) s := by
 have hp := getLt h
 have hq : M[p] = q := by rw [List.getElem?_eq_getElem hp] at h; exact Option.some.inj h
 rw [List.drop_eq_getElem_cons hp, hq]; rfl
theorem firstLive_none {M : Mp} {p : Nat} (h : M[p]? = none) (s : Int) : firstLive (M.drop p) s = none := by
 rw [List.drop_eq_nil_of_le (by simpa using h)]; rfl
theorem rput_old {b : Nat} {X : RmX} {I : RmI} (rel : RmRel X I) (ok : X.ok) {key : ByteArray} (hk : key.size ≤ 32) (x : Ver) (hR : chainRight (chainM X.M key ++ [x]) = true) (hfk : fnd (ks X.M) key = true) :
  Does Tryz.prog 73 [.pointer (some ⟨b, 0, none⟩), .string key, .agg #[.int .i64 x.seq, .bool x.gone, .bool x.val.num, .string x.val.text, .int .u64 x.val.bits]] (RmO b X I) (fun v l => v = .int .i64 0 ∧ l = [RoomC b ⟨X.label, X.ring, X.quota, X.most, X.R, mPut X.M key x⟩]) := by
 refine spec_of Tryz.func73 rfl Tryz.ntmps73 Tryz.results73 _ (by simp) fun ι F => ?_
 have hvo := rel.vis key
 have hch := ok.chain key
 
 refine vc_seq ?_
 refine vc_region ?_
 refine vc_box [_, _, _, _, _] rfl rfl rfl (fun b5 => ?_)
 refine vp ?_
 refine vc_nil ?_
 refine vc_then ?_
 refine vc_seq ?_
 refine vc_draw (by kernel_rfl) _ none [0] rfl ?_
 refine tpp 0 ?_
 refine tpp 1 ?_
 refine tk 3 rfl (by exact y_loadA 0 rfl (cs := [_, _, _, _, _]) ag_135 rfl (Pts.visA rfl)) ?_
 refine va_ready [2] (by kernel_rfl) rfl ?_
 refine vo_cons rfl (fun hC0 => ?_) ?_
 ·skip
  refine vc_callv ca_76 (us := []) (vs := []) rfl [_, _] rfl [1, 1, 1, 1, 1, 1, 1] rfl (rchain0 rel key) rfl ?_
  rintro _ _ ⟨rfl, rfl⟩
  refine vc_nil ?_
  refine vc_then ?_
  refine va_kept hC0 [7] rfl ?_
  clear hC0
  refine va_ready [4] (by kernel_rfl) rfl ?_
  refine vo_cons rfl (fun hC0 => ?_) ?_
  ·skip
   refine vc_callv ca_123 (us := []) (vs := []) rfl [_, _] rfl [6] rfl (Add_spec hvo (by omega) (by omega) x hR) rfl ?_
   rintro _ _ ⟨g, rfl, rfl⟩
   refine vc_nil ?_
   refine vc_then ?_
   refine va_kept hC0 [8] rfl ?_
   clear hC0
   refine tpp 5 ?_
   refine tpp 6 ?_
   refine tpp 7 ?_
   refine tpp 8 ?_
   refine tpp 9 ?_
   refine va_done (by kernel_rfl) ?_
   refine vc_then ?_
   refine vc_seq ?_
   refine vc_seq ?_
   refine vc_region ?_
   refine vp ?_
   refine vp ?_
   refine vc_nil ?_
   refine vc_then ?_
   first | refine vc_condP rfl (fun c18 => ?_) (fun c18 => ?_) | refine vc_condN rfl (fun c18 => ?_) (fun c18 => ?_) | refine vc_cond rfl (fun c18 => ?_) (fun c18 => ?_)
   ·skip
    simp at c18
   ·skip
    refine vc_skip ?_
    refine vc_then ?_
    refine vc_seq ?_
    refine vc_region ?_
    refine vc_turn 0 rfl (RoSl eVer g (chainM X.M key ++ [x])) Sl.share ?_
    iterate 3 refine vp ?_
    refine vc_callv ca_78 (us := []) (vs := []) rfl [_, _, _] rfl [2, 2, 2, 2, 2, 2, 1, 0] rfl (lay_put rel ok hk (by simp; omega) hfk (by simp)) rfl ?_
    rintro _ _ ⟨rfl, rfl⟩
    refine vc_nil ?_
    refine vc_then ?_
    refine vc_seq ?_
    refine vc_region ?_
    refine vp ?_
    refine vc_nil ?_
    refine vc_then ?_
    refine vc_ret ?_
    exact vc_end1 Tryz.results73 rfl _ (ent_pick [0] rfl) ⟨rfl, by simp only [mPut, hfk, if_true]⟩
  exact vo_nil
 exact vo_nil
theorem rput_new {b : Nat} {X : RmX} {I : RmI} (rel : RmRel X I) (ok : X.ok) {key : ByteArray} (hk : key.size ≤ 32) (x : Ver) (hR : chainRight (chainM X.M key ++ [x]) = true) (hfk : fnd (ks X.M) key = false) (hlt : X.M.length < 100000) :
  Does Tryz.prog 73 [.pointer (some ⟨b, 0, none⟩), .string key, .agg #[.int .i64 x.seq, .bool x.gone, .bool x.val.num, .string x.val.text, .int .u64 x.val.bits]] (RmO b X I) (fun v l => v = .int .i64 0 ∧ l = [RoomC b ⟨X.label, X.ring, X.quota, X.most, X.R, mPut X.M key x⟩]) := by
 refine spec_of Tryz.func73 rfl Tryz.ntmps73 Tryz.results73 _ (by simp) fun ι F => ?_
 have hvo := rel.vis key
 have hch := ok.chain key
 have hcn := chainM_none hfk
 
 refine vc_seq ?_
 refine vc_region ?_
 refine vc_box [_, _, _, _, _] rfl rfl rfl (fun b5 => ?_)
 refine vp ?_
 refine vc_nil ?_
 refine vc_then ?_
 refine vc_seq ?_
 refine vc_draw (by kernel_rfl) _ none [0] rfl ?_
 refine tpp 0 ?_
 refine tpp 1 ?_
 refine tk 3 rfl (by exact y_loadA 0 rfl (cs := [_, _, _, _, _]) ag_135 rfl (Pts.visA rfl)) ?_
 refine va_ready [2] (by kernel_rfl) rfl ?_
 refine vo_cons rfl (fun hC0 => ?_) ?_
 ·skip
  refine vc_callv ca_76 (us := []) (vs := []) rfl [_, _] rfl [1, 1, 1, 1, 1, 1, 1] rfl (rchain0 rel key) rfl ?_
  rintro _ _ ⟨rfl, rfl⟩
  refine vc_nil ?_
  refine vc_then ?_
  refine va_kept hC0 [7] rfl ?_
  clear hC0
  refine va_ready [4] (by kernel_rfl) rfl ?_
  refine vo_cons rfl (fun hC0 => ?_) ?_
  ·skip
   refine vc_callv ca_123 (us := []) (vs := []) rfl [_, _] rfl [6] rfl (Add_spec hvo (by omega) (by omega) x hR) rfl ?_
   rintro _ _ ⟨g, rfl, rfl⟩
   refine vc_nil ?_
   refine vc_then ?_
   refine va_kept hC0 [8] rfl ?_
   clear hC0
   refine tpp 5 ?_
   refine tpp 6 ?_
   refine tpp 7 ?_
   refine tpp 8 ?_
   refine tpp 9 ?_
   refine va_done (by kernel_rfl) ?_
   refine vc_then ?_
   refine vc_seq ?_
   refine vc_seq ?_
   refine vc_region ?_
   refine vp ?_
   refine vp ?_
   refine vc_nil ?_
   refine vc_then ?_
   first | refine vc_condP rfl (fun c18 => ?_) (fun c18 => ?_) | refine vc_condN rfl (fun c18 => ?_) (fun c18 => ?_) | refine vc_cond rfl (fun c18 => ?_) (fun c18 => ?_)
   ·skip
    simp at c18
   ·skip
    refine vc_skip ?_
    refine vc_then ?_
    refine vc_seq ?_
    refine vc_region ?_
    refine vc_turn 0 rfl (RoSl eVer g (chainM X.M key ++ [x])) Sl.share ?_
    iterate 3 refine vp ?_
    refine vc_callv ca_78 (us := []) (vs := []) rfl [_, _, _] rfl [2, 2, 2, 2, 2, 2, 1, 0] rfl (lay_ins rel ok hk (by simp; omega) hfk (by simp) hlt) rfl ?_
    rintro _ _ ⟨rfl, rfl⟩
    refine vc_nil ?_
    refine vc_then ?_
    refine vc_seq ?_
    refine vc_region ?_
    refine vp ?_
    refine vc_nil ?_
    refine vc_then ?_
    refine vc_ret ?_
    exact vc_end1 Tryz.results73 rfl _ (ent_pick [0] rfl) ⟨rfl, by simp only [mPut, hfk, hcn, List.nil_append]; rfl⟩
  exact vo_nil
 exact vo_nil
theorem rput {b : Nat} {X : RmX} {I : RmI} (rel : RmRel X I) (ok : X.ok) {key : ByteArray} (hk : key.size ≤ 32) (x : Ver) (hR : chainRight (chainM X.M key ++ [x]) = true) (hlt : X.M.length < 100000) :
  Does Tryz.prog 73 [.pointer (some ⟨b, 0, none⟩), .string key, .agg #[.int .i64 x.seq, .bool x.gone, .bool x.val.num, .string x.val.text, .int .u64 x.val.bits]] (RmO b X I) (fun v l => v = .int .i64 0 ∧ l = [RoomC b ⟨X.label, X.ring, X.quota, X.most, X.R, mPut X.M key x⟩]) := by
 cases hfk : fnd (ks X.M) key with
 | true => exact rput_old rel ok hk x hR hfk
 | false => exact rput_new rel ok hk x hR hfk hlt
theorem rseq0 {b : Nat} {X : RmX} {I : RmI} (rel : RmRel X I) (ok : X.ok) : Does Tryz.prog 16 [.pointer (some ⟨b, 0, none⟩)] (RmO b X I) (fun v l => v = .int .i64 X.R.seq ∧ l = RmO b X I) := by
 refine spec_of Tryz.func16 rfl Tryz.ntmps16 Tryz.results16 _ (by simp) fun ι F => ?_
 refine vc_seq ?_
 refine vc_region ?_
 refine vp ?_
 refine vc_nil ?_
 refine vc_then ?_
 refine vc_seq ?_
 refine vc_seq ?_
 refine vc_region ?_
 refine vp ?_
 refine vc_y (y_eqNil ep_28 rfl rfl) rfl ?_
 refine vc_nil ?_
 refine vc_then ?_
 refine vc_condF rfl ?_
 refine vc_skip ?_
 refine vc_then ?_
 refine vc_seq ?_
 refine vc_region ?_
 refine vp ?_
 refine vp ?_
 refine vc_y (y_fieldP fl_132_1 4 rfl rfl) rfl ?_
 refine vc_y (y_load1 0 rfl one_128 rfl (Pts.vis rfl)) rfl ?_
 refine vc_callv ca_74 (us := []) (vs := []) rfl [_] rfl [2] rfl (ring_seq) rfl ?_
 rintro _ _ ⟨rfl, rfl⟩
 refine vp ?_
 refine vc_nil ?_
 refine vc_then ?_
 refine vc_ret ?_
 exact vc_end1 Tryz.results16 rfl _ (ent_pick [1, 1, 0, 0, 0, 0, 0] rfl) ⟨rfl, rfl⟩
theorem rfloor0 {b : Nat} {X : RmX} {I : RmI} (rel : RmRel X I) (ok : X.ok) : Does Tryz.prog 18 [.pointer (some ⟨b, 0, none⟩)] (RmO b X I) (fun v l => v = .int .i64 X.R.floor ∧ l = RmO b X I) := by
 refine spec_of Tryz.func18 rfl Tryz.ntmps18 Tryz.results18 _ (by simp) fun ι F => ?_
 refine vc_seq ?_
 refine vc_region ?_
 refine vp ?_
 refine vc_nil ?_
 refine vc_then ?_
 refine vc_seq ?_
 refine vc_seq ?_
 refine vc_region ?_
 refine vp ?_
 refine vc_y (y_eqNil ep_28 rfl rfl) rfl ?_
 refine vc_nil ?_
 refine vc_then ?_
 refine vc_condF rfl ?_
 refine vc_skip ?_
 refine vc_then ?_
 refine vc_seq ?_
 refine vc_region ?_
 refine vp ?_
 refine vp ?_
 refine vc_y (y_fieldP fl_132_1 4 rfl rfl) rfl ?_
 refine vc_y (y_load1 0 rfl one_128 rfl (Pts.vis rfl)) rfl ?_
 refine vc_callv ca_80 (us := []) (vs := []) rfl [_] rfl [2] rfl (ring_floor ok.rg) rfl ?_
 rintro _ _ ⟨rfl, rfl⟩
 refine vp ?_
 refine vc_nil ?_
 refine vc_then ?_
 refine vc_ret ?_
 exact vc_end1 Tryz.results18 rfl _ (ent_pick [1, 1, 0, 0, 0, 0, 0] rfl) ⟨rfl, rfl⟩
theorem rlive0 {b : Nat} {X : RmX} {I : RmI} (rel : RmRel X I) (ok : X.ok) : Does Tryz.prog 22 [.pointer (some ⟨b, 0, none⟩)] (RmO b X I) (fun v l => v = .int .i64 (liveM X.M) ∧ l = RmO b X I) := by
 refine spec_of Tryz.func22 rfl Tryz.ntmps22 Tryz.results22 _ (by simp) fun ι F => ?_
 refine vc_seq ?_
 refine vc_region ?_
 refine vp ?_
 refine vc_nil ?_
 refine vc_then ?_
 refine vc_seq ?_
 refine vc_seq ?_
 refine vc_region ?_
 refine vp ?_
 refine vc_y (y_eqNil ep_28 rfl rfl) rfl ?_
 refine vc_nil ?_
 refine vc_then ?_
 refine vc_condF rfl ?_
 refine vc_skip ?_
 refine vc_then ?_
 refine vc_seq ?_
 refine vc_region ?_
 refine vp ?_
 refine vp ?_
 refine vc_y (y_fieldP fl_132_5 8 rfl rfl) rfl ?_
 refine vc_y (y_load1 0 rfl one_3 rfl (Pts.vis rfl)) rfl ?_
 refine vp ?_
 refine vc_nil ?_
 refine vc_then ?_
 refine vc_ret ?_
 exact vc_end1 Tryz.results22 rfl _ (ent_pick [0, 0, 0, 0, 0, 0, 0] rfl) ⟨rfl, rfl⟩
theorem rkeys0 {b : Nat} {X : RmX} {I : RmI} (rel : RmRel X I) (ok : X.ok) : Does Tryz.prog 23 [.pointer (some ⟨b, 0, none⟩)] (RmO b X I) (fun v l => v = .int .i64 (countM X.M) ∧ l = RmO b X I) := by
 refine spec_of Tryz.func23 rfl Tryz.ntmps23 Tryz.results23 _ (by simp) fun ι F => ?_
 refine vc_seq ?_
 refine vc_region ?_
 refine vp ?_
 refine vc_nil ?_
 refine vc_then ?_
 refine vc_seq ?_
 refine vc_seq ?_
 refine vc_region ?_
 refine vp ?_
 refine vc_y (y_eqNil ep_28 rfl rfl) rfl ?_
 refine vc_nil ?_
 refine vc_then ?_
 refine vc_condF rfl ?_
 refine vc_skip ?_
 refine vc_then ?_
 refine vc_seq ?_
 refine vc_region ?_
 refine vp ?_
 refine vp ?_
 refine vc_y (y_fieldP fl_132_6 9 rfl rfl) rfl ?_
 refine vc_y (y_load1 0 rfl one_3 rfl (Pts.vis rfl)) rfl ?_
 refine vp ?_
 refine vc_nil ?_
 refine vc_then ?_
 refine vc_ret ?_
 exact vc_end1 Tryz.results23 rfl _ (ent_pick [0, 0, 0, 0, 0, 0, 0] rfl) ⟨rfl, rfl⟩
theorem rvers0 {b : Nat} {X : RmX} {I : RmI} (rel : RmRel X I) (ok : X.ok) : Does Tryz.prog 24 [.pointer (some ⟨b, 0, none⟩)] (RmO b X I) (fun v l => v = .int .i64 (versM X.M) ∧ l = RmO b X I) := by
 refine spec_of Tryz.func24 rfl Tryz.ntmps24 Tryz.results24 _ (by simp) fun ι F => ?_
 refine vc_seq ?_
 refine vc_region ?_
 refine vp ?_
 refine vc_nil ?_
 refine vc_then ?_
 refine vc_seq ?_
 refine vc_seq ?_
 refine vc_region ?_
 refine vp ?_
 refine vc_y (y_eqNil ep_28 rfl rfl) rfl ?_
 refine vc_nil ?_
 refine vc_then ?_
 refine vc_condF rfl ?_
 refine vc_skip ?_
 refine vc_then ?_
 refine vc_seq ?_
 refine vc_region ?_
 refine vp ?_
 refine vp ?_
 refine vc_y (y_fieldP fl_132_7 10 rfl rfl) rfl ?_
 refine vc_y (y_load1 0 rfl one_3 rfl (Pts.vis rfl)) rfl ?_
 refine vp ?_
 refine vc_nil ?_
 refine vc_then ?_
 refine vc_ret ?_
 exact vc_end1 Tryz.results24 rfl _ (ent_pick [0, 0, 0, 0, 0, 0, 0] rfl) ⟨rfl, rfl⟩
theorem rasof0 {b : Nat} {X : RmX} {I : RmI} (rel : RmRel X I) (ok : X.ok) (s : Int) : Does Tryz.prog 32 [.pointer (some ⟨b, 0, none⟩), .int .u64 s] (RmO b X I) (fun v l => v = .tuple #[.int .i64 (asOfR X.R s).1, .int .i64 (asOfR X.R s).2] ∧ l = RmO b X I) := by
 refine spec_of Tryz.func32 rfl Tryz.ntmps32 Tryz.results32 _ (by simp) fun ι F => ?_
 refine vc_seq ?_
 refine vc_region ?_
 refine vp ?_
 refine vp ?_
 refine vc_nil ?_
 refine vc_then ?_
 refine vc_seq ?_
 refine vc_seq ?_
 refine vc_region ?_
 refine vp ?_
 refine vc_y (y_eqNil ep_28 rfl rfl) rfl ?_
 refine vc_nil ?_
 refine vc_then ?_
 refine vc_condF rfl ?_
 refine vc_skip ?_
 refine vc_then ?_
 refine vc_seq ?_
 refine vc_region ?_
 refine vp ?_
 refine vp ?_
 refine vc_y (y_fieldP fl_132_1 4 rfl rfl) rfl ?_
 refine vc_y (y_load1 0 rfl one_128 rfl (Pts.vis rfl)) rfl ?_
 refine vp ?_
 refine vc_callv ca_95 (us := []) (vs := []) rfl [_, _] rfl [2] rfl (ring_asof ok.rg s) rfl ?_
 rintro _ _ ⟨rfl, rfl⟩
 iterate 4 refine vp ?_
 refine vc_nil ?_
 refine vc_then ?_
 refine vc_ret ?_
 exact vc_end2 Tryz.results32 rfl rfl _ (ent_pick [1, 1, 0, 0, 0, 0, 0] rfl) ⟨rfl, rfl⟩
theorem rget0 {b : Nat} {X : RmX} {I : RmI} (rel : RmRel X I) (ok : X.ok) (key : ByteArray) {seq : Int} (h2 : seq ≤ 9223372036854775807) : Does Tryz.prog 19 [.pointer (some ⟨b, 0, none⟩), .string key, .int .i64 seq] (RmO b X I) (fun v l => v = valTup (verAt (chainM X.M key) seq) ∧ l = RmO b X I) := by
 refine spec_of Tryz.func19 rfl Tryz.ntmps19 Tryz.results19 _ (by simp) fun ι F => ?_
 have hvo := rel.vis key
 have hch := ok.chain key
 refine vc_seq ?_
 refine vc_region ?_
 refine vc_alloc [.bool false, .string ⟨#[]⟩, .int .u64 0] ze_45 rfl rfl (fun b6 => ?_)
 refine vp ?_
 refine vc_nil ?_
 refine vc_then ?_
 refine vc_seq ?_
 refine vc_region ?_
 refine vp ?_
 refine vp ?_
 refine vc_callv ca_76 (us := []) (vs := []) rfl [_, _] rfl [1, 1, 1, 1, 1, 1, 1] rfl (rchain0 rel key) rfl ?_
 rintro _ _ ⟨rfl, rfl⟩
 refine vp ?_
 refine vc_callv ca_81 (us := []) (vs := []) rfl [_, _] rfl [6] rfl (At_spec hvo (by omega) h2) rfl ?_
 rintro _ _ ⟨rfl, rfl⟩
 iterate 3 refine vp ?_
 refine vc_alloc [.int .i64 0, .bool false, .bool false, .string ⟨#[]⟩, .int .u64 0] ze_135 rfl rfl (fun b8 => ?_)
 refine vc_storeP 0 rfl [_, _, _, _, _] [_, _, _, _, _] rfl rfl rfl sz_135 rfl rfl rfl ?_
 refine vp ?_
 refine vc_nil ?_
 refine vc_then ?_
 refine vc_seq ?_
 refine vc_region ?_
 refine vc_y (y_fieldP fl_135_2 2 rfl rfl) rfl ?_
 refine vc_y (y_loadA 0 rfl (cs := [_, _, _]) ag_45 rfl (Pts.visA rfl)) rfl ?_
 refine vp ?_
 refine vc_storeP 8 rfl [_, _, _] [_, _, _] rfl rfl rfl sz_45 rfl rfl rfl ?_
 refine vp ?_
 refine vc_nil ?_
 refine vc_then ?_
 refine vc_ret ?_
 exact vc_endR Tryz.results19 (resL_cons (res_a 8 rfl (cs := [_, _, _]) ag_45 rfl (Pts.visA rfl)) (resL_cons (res_t rfl) (resL_nil))) _ (ent_pick [2, 2, 2, 2, 2, 2, 1] rfl) ⟨rfl, rfl⟩
theorem rfrom0 {b : Nat} {X : RmX} {I : RmI} (rel : RmRel X I) (ok : X.ok) {seq : Int} (h2 : seq ≤ 9223372036854775807) (p : Nat) {k0 : ByteArray} {n0 : Int} {o0 : Bool} (e1 : k0 = resK I.t[p]?) (e2 : n0 = resN I.t[p]?) (e3 : o0 = resB I.t[p]?) : Does Tryz.prog 83 [.pointer (some ⟨b, 0, none⟩), .string k0, .int .i64 n0, .bool o0, .int .i64 seq] (RmO b X I) (fun v l => v = rowTup (firstLive (X.M.drop p) seq) ∧ l = RmO b X I) := by
 refine spec_of Tryz.func83 rfl Tryz.ntmps83 Tryz.results83 _ (by simp) fun ι F => ?_
 subst e1 e2 e3
 refine vc_seq ?_
 refine vc_region ?_
 refine vp ?_
 refine vc_alloc [.bool false, .string ⟨#[]⟩, .int .u64 0] ze_45 rfl rfl (fun b11 => ?_)
 refine vp ?_
 refine vc_nil ?_
 refine vc_then ?_
 refine vc_seq ?_
 refine vc_block ?_
 refine vc_loop (α := Nat) (fun xq_ => match xq_ with | j => [(0, .pointer (some ⟨b, 0, none⟩)), (1, .string (resK I.t[j]?)), (2, .int .i64 (resN I.t[j]?)), (3, .bool (resB I.t[j]?)), (4, .int .i64 seq), (11, .pointer (some ⟨b11, 0, none⟩))]) (fun xq_ => match xq_ with | j => Pts b11 [.bool false, .string ⟨#[]⟩, .int .u64 0] 45 :: RmO b X I) (fun xq_ => match xq_ with | j => X.M.length - j) (fun xq_ => match xq_ with | j => firstLive (X.M.drop p) seq = firstLive (X.M.drop j) seq) p rfl ⟨rfl, rfl, rfl, rfl, rfl, rfl, trivial⟩ (ent_pick [0, 0, 0, 0, 0, 0, 0, 0] rfl) ?_
 rintro j hok
 show VC _ _ _ _ [(0, .pointer (some ⟨b, 0, none⟩)), (1, .string (resK I.t[j]?)), (2, .int .i64 (resN I.t[j]?)), (3, .bool (resB I.t[j]?)), (4, .int .i64 seq), (11, .pointer (some ⟨b11, 0, none⟩))] (Pts b11 [.bool false, .string ⟨#[]⟩, .int .u64 0] 45 :: RmO b X I)
 refine vc_seq ?_
 refine vc_seq ?_
 refine vc_region ?_
 refine vp ?_
 refine vc_nil ?_
 refine vc_then ?_
 first | refine vc_condP rfl (fun c15 => ?_) (fun c15 => ?_) | refine vc_condN rfl (fun c15 => ?_) (fun c15 => ?_) | refine vc_cond rfl (fun c15 => ?_) (fun c15 => ?_)
 ·skip
  obtain ⟨q, hq⟩ : ∃ q, I.t[j]? = some q := by
   cases h0 : I.t[j]? with
   | none => rw [h0] at c15; cases c15
   | some q => exact ⟨q, rfl⟩
  obtain ⟨c, m1, m2, m3, m4⟩ := rel.at hq
  have hjl := getLt m1
  have m5 : q.2.toNat < I.hdrs.length := by rw [rel.hl]; exact m4
  have hvc := RoSl.vis.ent (AllRo.get (List.getElem?_eq_getElem m5) m2)
  have hpo := ok.ps _ (List.mem_of_getElem? m1)
  have hcl : c.length ≤ 1000000 := by have := hpo.len; have := ok.bg; simp only at *; omega
  have hfa := firstLive_at m1 seq
  rw [hq]
  refine vc_skip ?_
  refine vc_then ?_
  refine vc_block ?_
  refine vc_seq ?_
  refine vc_seq ?_
  refine vc_region ?_
  refine vp ?_
  refine vp ?_
  refine vc_y (y_fieldP fl_132_3 6 rfl rfl) rfl ?_
  refine vc_y (y_load1 1 rfl one_130 rfl (Pts.vis rfl)) rfl ?_
  refine vp ?_
  refine vc_y (y_elem 5 rfl (Sl.vis) q.2.toNat (Int.toNat_of_nonneg m3).symm m5 sl_130 rfl rfl) rfl ?_
  refine vc_y (y_load1 5 rfl one_138 rfl (Rd.vis1 (Sl.vis) (List.getElem?_eq_getElem m5) rfl)) rfl ?_
  refine vp ?_
  refine vc_callv ca_81 (us := []) (vs := []) rfl [_, _] rfl [7] rfl (At_spec hvc hcl h2) rfl ?_
  rintro _ _ ⟨rfl, rfl⟩
  iterate 3 refine vp ?_
  refine vc_alloc [.int .i64 0, .bool false, .bool false, .string ⟨#[]⟩, .int .u64 0] ze_135 rfl rfl (fun b13 => ?_)
  refine vc_storeP 0 rfl [_, _, _, _, _] [_, _, _, _, _] rfl rfl rfl sz_135 rfl rfl rfl ?_
  refine vp ?_
  refine vc_nil ?_
  refine vc_then ?_
  refine vc_seq ?_
  refine vc_region ?_
  refine vp ?_
  refine vc_nil ?_
  refine vc_then ?_
  first | refine vc_condP rfl (fun c28 => ?_) (fun c28 => ?_) | refine vc_condN rfl (fun c28 => ?_) (fun c28 => ?_) | refine vc_cond rfl (fun c28 => ?_) (fun c28 => ?_)
  ·skip
   obtain ⟨v, hv⟩ : ∃ v, verAt c seq = some v := by
    cases h0 : verAt c seq with
    | none => rw [h0] at c28; cases c28
    | some v => exact ⟨v, rfl⟩
   have hf1 : firstLive (X.M.drop j) seq = some (q.1, v) := by rw [hfa]; simp only [hv]
   rw [hv]
   refine vc_seq ?_
   refine vc_draw (by kernel_rfl) _ none [0] rfl ?_
   refine tpp 0 ?_
   refine tp 1 rfl (by exact y_fieldP fl_135_2 2 rfl rfl) ?_
   refine tk 2 rfl (by exact y_loadA 0 rfl (cs := [_, _, _]) ag_45 rfl (Pts.visA rfl)) ?_
   refine tpp 3 ?_
   refine va_ready [4] (by kernel_rfl) rfl ?_
   refine vo_cons rfl (fun hC0 => ?_) ?_
   ·skip
    refine vc_storeP 2 rfl [_, _, _] [_, _, _] rfl rfl rfl sz_45 rfl rfl rfl ?_
    refine vc_nil ?_
    refine vc_then ?_
    refine va_kept hC0 [0] rfl ?_
    clear hC0
    refine tpp 5 ?_
    refine va_done (by kernel_rfl) ?_
    refine vc_then ?_
    refine vc_ret ?_
    refine vc_thenRet ?_
    refine vc_inRet ?_
    refine vc_thenRet ?_
    refine vc_inRet ?_
    refine vc_thenRet ?_
    exact vc_endR Tryz.results83 (resL_cons (res_t rfl) (resL_cons (res_a 2 rfl (cs := [_, _, _]) ag_45 rfl (Pts.visA rfl)) (resL_cons (res_t rfl) (resL_nil)))) _ (ent_pick [3, 3, 3, 3, 3, 3, 1] rfl) ⟨by rw [hok, hf1]; rfl, rfl⟩
   exact vo_nil
  ·skip
   have hv : verAt c seq = none := by
    cases h0 : verAt c seq with
    | none => rfl
    | some v => rw [h0] at c28; cases c28
   have hf1 : firstLive (X.M.drop j) seq = firstLive (X.M.drop (j + 1)) seq := by rw [hfa]; simp only [hv]
   refine vc_skip ?_
   refine vc_then ?_
   refine vc_region ?_
   refine vp ?_
   refine vp ?_
   refine vc_y (y_fieldP fl_132_2 5 rfl rfl) rfl ?_
   refine vc_y (y_load1 3 rfl one_129 rfl (Pts.vis rfl)) rfl ?_
   refine vp ?_
   refine vc_callv ca_82 (us := []) (vs := []) rfl [_, _] rfl [6] rfl (Does.re (tree_after q.1) (show _ = resV I.t[j + 1]? by rw [rel.next ok hq])) rfl ?_
   rintro _ _ ⟨rfl, rfl⟩
   iterate 7 refine vp ?_
   refine vc_nil ?_
   refine vc_inNormal ?_
   refine vc_then ?_
   exact vc_again (x := j) (j + 1) (hok.trans hf1) (by show X.M.length - (j + 1) < X.M.length - j; omega) ⟨rfl, rfl, rfl, rfl, rfl, rfl, trivial⟩ (ent_pick [3, 3, 3, 3, 0, 2, 2, 1] rfl)
 ·skip
  have hq : I.t[j]? = none := by
   cases h0 : I.t[j]? with
   | none => rfl
   | some q => rw [h0] at c15; cases c15
  have hmn : X.M[j]? = none := by rw [rel.m, List.getElem?_map, hq]; rfl
  have hfn := firstLive_none hmn seq
  refine vc_exit ?_
  refine vc_thenExit ?_
  refine vc_thenExit ?_
  refine vc_inExit ?_
  refine vc_then ?_
  refine vc_seq ?_
  refine vc_region ?_
  refine vc_y (y_build [] [_, _, _] rfl (bu_45_n  )) rfl ?_
  refine vp ?_
  refine vc_storeP 0 rfl [_, _, _] [_, _, _] rfl rfl rfl sz_45 rfl rfl rfl ?_
  refine vp ?_
  refine vc_nil ?_
  refine vc_then ?_
  refine vc_ret ?_
  exact vc_endR Tryz.results83 (resL_cons (res_t rfl) (resL_cons (res_a 0 rfl (cs := [_, _, _]) ag_45 rfl (Pts.visA rfl)) (resL_cons (res_t rfl) (resL_nil)))) _ (ent_pick [1, 1, 1, 1, 1, 1, 1] rfl) ⟨by rw [hok, hfn]; rfl, rfl⟩
theorem rafter0 {b : Nat} {X : RmX} {I : RmI} (rel : RmRel X I) (ok : X.ok) (key : ByteArray) {seq : Int} (h2 : seq ≤ 9223372036854775807) : Does Tryz.prog 20 [.pointer (some ⟨b, 0, none⟩), .string key, .int .i64 seq] (RmO b X I) (fun v l => v = rowTup (liveFrom X.M key true seq) ∧ l = RmO b X I) := by
 refine spec_of Tryz.func20 rfl Tryz.ntmps20 Tryz.results20 _ (by simp) fun ι F => ?_
 refine vc_seq ?_
 refine vc_region ?_
 refine vp ?_
 refine vc_alloc [.bool false, .string ⟨#[]⟩, .int .u64 0] ze_45 rfl rfl (fun b7 => ?_)
 refine vp ?_
 refine vc_nil ?_
 refine vc_then ?_
 refine vc_seq ?_
 refine vc_seq ?_
 refine vc_region ?_
 refine vp ?_
 refine vc_y (y_eqNil ep_28 rfl rfl) rfl ?_
 refine vc_nil ?_
 refine vc_then ?_
 refine vc_condF rfl ?_
 refine vc_skip ?_
 refine vc_then ?_
 refine vc_seq ?_
 refine vc_region ?_
 refine vp ?_
 refine vp ?_
 refine vc_y (y_fieldP fl_132_2 5 rfl rfl) rfl ?_
 refine vc_y (y_load1 1 rfl one_129 rfl (Pts.vis rfl)) rfl ?_
 refine vp ?_
 refine vc_callv ca_82 (us := []) (vs := []) rfl [_, _] rfl [4] rfl (Does.re (tree_after key) (show _ = resV I.t[nextP X.M key true]? by rw [rel.nextP])) rfl ?_
 rintro _ _ ⟨rfl, rfl⟩
 iterate 7 refine vp ?_
 refine vc_nil ?_
 refine vc_then ?_
 refine vc_seq ?_
 refine vc_region ?_
 iterate 5 refine vp ?_
 refine vc_callv ca_83 (us := []) (vs := []) rfl [_, _, _, _, _] rfl [2, 2, 2, 0, 1, 1, 1] rfl (rfrom0 rel ok h2 (nextP X.M key true) rfl rfl rfl) rfl ?_
 rintro _ _ ⟨rfl, rfl⟩
 iterate 4 refine vp ?_
 refine vc_storeP 7 rfl [_, _, _] [_, _, _] rfl rfl rfl sz_45 rfl rfl rfl ?_
 refine vp ?_
 refine vc_nil ?_
 refine vc_then ?_
 refine vc_ret ?_
 exact vc_endR Tryz.results20 (resL_cons (res_t rfl) (resL_cons (res_a 7 rfl (cs := [_, _, _]) ag_45 rfl (Pts.visA rfl)) (resL_cons (res_t rfl) (resL_nil)))) _ (ent_pick [0, 0, 0, 0, 0, 0, 0] rfl) ⟨rfl, rfl⟩
theorem rseek0 {b : Nat} {X : RmX} {I : RmI} (rel : RmRel X I) (ok : X.ok) (key : ByteArray) {seq : Int} (h2 : seq ≤ 9223372036854775807) : Does Tryz.prog 99 [.pointer (some ⟨b, 0, none⟩), .string key, .int .i64 seq] (RmO b X I) (fun v l => v = rowTup (liveFrom X.M key false seq) ∧ l = RmO b X I) := by
 refine spec_of Tryz.func99 rfl Tryz.ntmps99 Tryz.results99 _ (by simp) fun ι F => ?_
 refine vc_seq ?_
 refine vc_region ?_
 refine vp ?_
 refine vc_alloc [.bool false, .string ⟨#[]⟩, .int .u64 0] ze_45 rfl rfl (fun b7 => ?_)
 refine vp ?_
 refine vc_nil ?_
 refine vc_then ?_
 refine vc_seq ?_
 refine vc_seq ?_
 refine vc_region ?_
 refine vp ?_
 refine vc_y (y_eqNil ep_28 rfl rfl) rfl ?_
 refine vc_nil ?_
 refine vc_then ?_
 refine vc_condF rfl ?_
 refine vc_skip ?_
 refine vc_then ?_
 refine vc_seq ?_
 refine vc_region ?_
 refine vp ?_
 refine vp ?_
 refine vc_y (y_fieldP fl_132_2 5 rfl rfl) rfl ?_
 refine vc_y (y_load1 1 rfl one_129 rfl (Pts.vis rfl)) rfl ?_
 refine vp ?_
 refine vc_callv ca_138 (us := []) (vs := []) rfl [_, _] rfl [4] rfl (Does.re (tree_seek key) (show _ = resV I.t[nextP X.M key false]? by rw [rel.nextP])) rfl ?_
 rintro _ _ ⟨rfl, rfl⟩
 iterate 7 refine vp ?_
 refine vc_nil ?_
 refine vc_then ?_
 refine vc_seq ?_
 refine vc_region ?_
 iterate 5 refine vp ?_
 refine vc_callv ca_83 (us := []) (vs := []) rfl [_, _, _, _, _] rfl [2, 2, 2, 0, 1, 1, 1] rfl (rfrom0 rel ok h2 (nextP X.M key false) rfl rfl rfl) rfl ?_
 rintro _ _ ⟨rfl, rfl⟩
 iterate 4 refine vp ?_
 refine vc_storeP 7 rfl [_, _, _] [_, _, _] rfl rfl rfl sz_45 rfl rfl rfl ?_
 refine vp ?_
 refine vc_nil ?_
 refine vc_then ?_
 refine vc_ret ?_
 exact vc_endR Tryz.results99 (resL_cons (res_t rfl) (resL_cons (res_a 7 rfl (cs := [_, _, _]) ag_45 rfl (Pts.visA rfl)) (resL_cons (res_t rfl) (resL_nil)))) _ (ent_pick [0, 0, 0, 0, 0, 0, 0] rfl) ⟨rfl, rfl⟩
theorem room_seq {b : Nat} {X : RmX} (ok : X.ok) : Does Tryz.prog 16 [.pointer (some ⟨b, 0, none⟩)] [RoomC b X] (fun v l => v = .int .i64 X.R.seq ∧ l = [RoomC b X]) :=
 room_does (r := []) fun I rel => by rw [List.append_nil]; exact Does.fin (rseq0 rel ok) fun v l ⟨e, h⟩ => ⟨_, h ▸ ent_RmO0 rel, e, rfl⟩
theorem room_floor {b : Nat} {X : RmX} (ok : X.ok) : Does Tryz.prog 18 [.pointer (some ⟨b, 0, none⟩)] [RoomC b X] (fun v l => v = .int .i64 X.R.floor ∧ l = [RoomC b X]) :=
 room_does (r := []) fun I rel => by rw [List.append_nil]; exact Does.fin (rfloor0 rel ok) fun v l ⟨e, h⟩ => ⟨_, h ▸ ent_RmO0 rel, e, rfl⟩
theorem room_live {b : Nat} {X : RmX} (ok : X.ok) : Does Tryz.prog 22 [.pointer (some ⟨b, 0, none⟩)] [RoomC b X] (fun v l => v = .int .i64 (liveM X.M) ∧ l = [RoomC b X]) :=
 room_does (r := []) fun I rel => by rw [List.append_nil]; exact Does.fin (rlive0 rel ok) fun v l ⟨e, h⟩ => ⟨_, h ▸ ent_RmO0 rel, e, rfl⟩
theorem room_keys {b : Nat} {X : RmX} (ok : X.ok) : Does Tryz.prog 23 [.pointer (some ⟨b, 0, none⟩)] [RoomC b X] (fun v l => v = .int .i64 (countM X.M) ∧ l = [RoomC b X]) :=
 room_does (r := []) fun I rel => by rw [List.append_nil]; exact Does.fin (rkeys0 rel ok) fun v l ⟨e, h⟩ => ⟨_, h ▸ ent_RmO0 rel, e, rfl⟩
theorem room_vers {b : Nat} {X : RmX} (ok : X.ok) : Does Tryz.prog 24 [.pointer (some ⟨b, 0, none⟩)] [RoomC b X] (fun v l => v = .int .i64 (versM X.M) ∧ l = [RoomC b X]) :=
 room_does (r := []) fun I rel => by rw [List.append_nil]; exact Does.fin (rvers0 rel ok) fun v l ⟨e, h⟩ => ⟨_, h ▸ ent_RmO0 rel, e, rfl⟩
theorem room_asof {b : Nat} {X : RmX} (ok : X.ok) (s : Int) : Does Tryz.prog 32 [.pointer (some ⟨b, 0, none⟩), .int .u64 s] [RoomC b X] (fun v l => v = .tuple #[.int .i64 (asOfR X.R s).1, .int .i64 (asOfR X.R s).2] ∧ l = [RoomC b X]) :=
 room_does (r := []) fun I rel => by rw [List.append_nil]; exact Does.fin (rasof0 rel ok s) fun v l ⟨e, h⟩ => ⟨_, h ▸ ent_RmO0 rel, e, rfl⟩
theorem room_get {b : Nat} {X : RmX} (ok : X.ok) (key : ByteArray) {seq : Int} (h2 : seq ≤ 9223372036854775807) : Does Tryz.prog 19 [.pointer (some ⟨b, 0, none⟩), .string key, .int .i64 seq] [RoomC b X] (fun v l => v = valTup (verAt (chainM X.M key) seq) ∧ l = [RoomC b X]) :=
 room_does (r := []) fun I rel => by rw [List.append_nil]; exact Does.fin (rget0 rel ok key h2) fun v l ⟨e, h⟩ => ⟨_, h ▸ ent_RmO0 rel, e, rfl⟩
theorem room_after {b : Nat} {X : RmX} (ok : X.ok) (key : ByteArray) {seq : Int} (h2 : seq ≤ 9223372036854775807) : Does Tryz.prog 20 [.pointer (some ⟨b, 0, none⟩), .string key, .int .i64 seq] [RoomC b X] (fun v l => v = rowTup (liveFrom X.M key true seq) ∧ l = [RoomC b X]) :=
 room_does (r := []) fun I rel => by rw [List.append_nil]; exact Does.fin (rafter0 rel ok key h2) fun v l ⟨e, h⟩ => ⟨_, h ▸ ent_RmO0 rel, e, rfl⟩
theorem room_seek {b : Nat} {X : RmX} (ok : X.ok) (key : ByteArray) {seq : Int} (h2 : seq ≤ 9223372036854775807) : Does Tryz.prog 99 [.pointer (some ⟨b, 0, none⟩), .string key, .int .i64 seq] [RoomC b X] (fun v l => v = rowTup (liveFrom X.M key false seq) ∧ l = [RoomC b X]) :=
 room_does (r := []) fun I rel => by rw [List.append_nil]; exact Does.fin (rseek0 rel ok key h2) fun v l ⟨e, h⟩ => ⟨_, h ▸ ent_RmO0 rel, e, rfl⟩
end Go.Proofs.YtcpbibdbahfgaaaGreat
