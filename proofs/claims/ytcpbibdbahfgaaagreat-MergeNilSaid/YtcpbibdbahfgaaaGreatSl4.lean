/-
 Concats.
-/
import Derived.Test.YtcpbibdbahfgaaaGreatSl3
set_option linter.unusedVariables false
set_option linter.unusedSimpArgs false
set_option autoImplicit false
namespace Go.Proofs.YtcpbibdbahfgaaaGreat
open Go.Eng
namespace FSl4
theorem el_136_eStr : TyEl Tryz.prog 136 eStr 16 := ⟨Tryz.underlying136, .string ⟨#[]⟩, by kernel_rfl, rfl⟩
theorem ze_9 : (Tryz.prog.info? 9).map (·.zero) = some (some (.string ⟨#[]⟩)) := by kernel_rfl
theorem sl_136 : TySl Tryz.prog 136 9 1 := ⟨Tryz.underlying136, by kernel_rfl⟩
theorem el_72_eInt : TyEl Tryz.prog 72 eInt 8 := ⟨Tryz.underlying72, .int .i64 0, by kernel_rfl, rfl⟩
theorem ze_3 : (Tryz.prog.info? 3).map (·.zero) = some (some (.int .i64 0)) := by kernel_rfl
theorem sl_72 : TySl Tryz.prog 72 3 1 := ⟨Tryz.underlying72, by kernel_rfl⟩
theorem el_72_eNat : TyEl Tryz.prog 72 eNat 8 := ⟨Tryz.underlying72, .int .i64 0, by kernel_rfl, rfl⟩
theorem sl_295 : TySl Tryz.prog 295 136 1 := ⟨Tryz.underlying295, by kernel_rfl⟩
theorem one_136 : TyOne Tryz.prog 136 := ⟨⟨_, Tryz.underlying136, rfl⟩, by kernel_rfl⟩
theorem ca_236 : Callable Tryz.prog 236 := ⟨_, _, Tryz.func236, rfl, rfl⟩
theorem sl_297 : TySl Tryz.prog 297 72 1 := ⟨Tryz.underlying297, by kernel_rfl⟩
theorem one_72 : TyOne Tryz.prog 72 := ⟨⟨_, Tryz.underlying72, rfl⟩, by kernel_rfl⟩
theorem ca_237 : Callable Tryz.prog 237 := ⟨_, _, Tryz.func237, rfl, rfl⟩
end FSl4
open FSl4
def eSl (t : Nat) : Enc SH := ⟨t, 1, fun h => [h.v], fun _ => rfl, fun _ c h => by simp at h; subst h; rfl, by decide⟩
theorem growS_spec {m : Nat} (hb : m ≤ 4000000) :
  Does Tryz.prog 236 [nilS.v, .int .i64 (m : Int)] [] (fun v l => ∃ h', v = h'.v ∧ l = [Sl eStr h' []]) := by
 refine spec_of Tryz.func236 rfl Tryz.ntmps236 Tryz.results236 _ (by simp) fun ι F => ?_
 refine vc_seq ?_
 refine vc_region ?_
 refine vp ?_
 refine vc_nil ?_
 refine vc_then ?_
 refine vc_seq ?_
 refine vc_seq ?_
 refine vc_region ?_
 refine vp ?_
 refine vp ?_
 refine vc_nil ?_
 refine vc_then ?_
 first | refine vc_condP rfl (fun c6 => ?_) (fun c6 => ?_) | refine vc_condN rfl (fun c6 => ?_) (fun c6 => ?_) | refine vc_cond rfl (fun c6 => ?_) (fun c6 => ?_)
 ·skip
  exact absurd c6 (by omega)
 ·skip
  refine vc_skip ?_
  refine vc_then ?_
  refine vc_seq ?_
  refine vc_seq ?_
  refine vc_region ?_
  refine vp ?_
  refine vp ?_
  refine vc_y (y_cap Tryz.underlying136 (h := nilS) rfl) rfl ?_
  refine vp ?_
  refine vc_y (y_len Tryz.underlying136 (h := nilS) rfl rfl) rfl ?_
  refine vc_y (y_arith (0 : Int) rfl (by decide)) rfl ?_
  refine vc_y (y_arith (m : Int) rfl (by rw [Int.sub_zero]; exact wrap64 (by omega) (by omega))) rfl ?_
  refine vp ?_
  refine vc_nil ?_
  refine vc_then ?_
  refine vc_seq ?_
  refine vc_region ?_
  refine vp ?_
  refine vp ?_
  refine vc_nil ?_
  refine vc_then ?_
  first | refine vc_condP rfl (fun c16 => ?_) (fun c16 => ?_) | refine vc_condN rfl (fun c16 => ?_) (fun c16 => ?_) | refine vc_cond rfl (fun c16 => ?_) (fun c16 => ?_)
  ·skip
   refine vc_region ?_
   refine vc_ent (l' := Sl eStr nilS [] :: _) sl_new ?_
   refine vp ?_
   refine vp ?_
   refine vc_y (y_cap Tryz.underlying136 (h := nilS) rfl) rfl ?_
   refine vc_y (y_slice sl_136 (h := nilS) rfl 0 0 0 rfl ⟨_, _, rfl, rfl⟩ rfl (by simp) (by omega) (by omega) (by exact Nat.le_refl _)) rfl ?_
   refine vp ?_
   refine vc_appendZ 0 rfl (E := eStr) (h := nilS.cut (Enc.sz eStr) 0 0 0) (xs := []) (Sl.vis.imp fun w r => by have := r.cut (lo := 0) (hi := 0) (mx := 0) (Nat.le_refl _) (Nat.le_refl _) (Nat.le_refl _) (Nat.zero_le _); simpa using this) (⟨#[]⟩ : ByteArray) el_136_eStr Tryz.underlying3 ze_9 rfl rfl m rfl (by omega) (by simp [SH.cut]; omega) (by simp; omega) (by simp; omega) rfl (fun h22 hh22 => ?_)
   refine vp ?_
   refine vc_y (y_len Tryz.underlying136 (h := nilS) rfl rfl) rfl ?_
   refine vc_y (y_slice sl_136 (h := h22) rfl 0 0 h22.cap rfl ⟨_, _, rfl, rfl⟩ rfl (by simp) (by omega) (by omega) (by omega)) rfl ?_
   refine vc_turn 0 rfl (Sl eStr (h22.cut (Enc.sz eStr) 0 0 h22.cap) []) (VS.of_ent (by have := Sl.cut (E := eStr) (h := h22) (xs := [] ++ List.replicate m (⟨#[]⟩ : ByteArray)) (lo := 0) (hi := 0) (mx := h22.cap) (Nat.le_refl _) (Nat.zero_le _) (Nat.zero_le _) (Nat.le_refl _); simpa using this)) ?_
   refine vp ?_
   refine vc_nil ?_
   refine vc_then ?_
   refine vc_seq ?_
   refine vc_region ?_
   refine vp ?_
   refine vp ?_
   refine vc_nil ?_
   refine vc_then ?_
   refine vc_ret ?_
   exact vc_end1 Tryz.results236 rfl _ (ent_pick [0] rfl) ⟨_, rfl, rfl⟩
  ·skip
   refine vc_skip ?_
   refine vc_then ?_
   refine vc_seq ?_
   refine vc_region ?_
   refine vp ?_
   refine vp ?_
   refine vc_nil ?_
   refine vc_then ?_
   refine vc_ret ?_
   exact vc_end1 Tryz.results236 rfl _ (sl_new) ⟨nilS, rfl, rfl⟩
theorem growI_spec {m : Nat} (hb : m ≤ 4000000) :
  Does Tryz.prog 237 [nilS.v, .int .i64 (m : Int)] [] (fun v l => ∃ h', v = h'.v ∧ l = [Sl eInt h' []]) := by
 refine spec_of Tryz.func237 rfl Tryz.ntmps237 Tryz.results237 _ (by simp) fun ι F => ?_
 refine vc_seq ?_
 refine vc_region ?_
 refine vp ?_
 refine vc_nil ?_
 refine vc_then ?_
 refine vc_seq ?_
 refine vc_seq ?_
 refine vc_region ?_
 refine vp ?_
 refine vp ?_
 refine vc_nil ?_
 refine vc_then ?_
 first | refine vc_condP rfl (fun c6 => ?_) (fun c6 => ?_) | refine vc_condN rfl (fun c6 => ?_) (fun c6 => ?_) | refine vc_cond rfl (fun c6 => ?_) (fun c6 => ?_)
 ·skip
  exact absurd c6 (by omega)
 ·skip
  refine vc_skip ?_
  refine vc_then ?_
  refine vc_seq ?_
  refine vc_seq ?_
  refine vc_region ?_
  refine vp ?_
  refine vp ?_
  refine vc_y (y_cap Tryz.underlying72 (h := nilS) rfl) rfl ?_
  refine vp ?_
  refine vc_y (y_len Tryz.underlying72 (h := nilS) rfl rfl) rfl ?_
  refine vc_y (y_arith (0 : Int) rfl (by decide)) rfl ?_
  refine vc_y (y_arith (m : Int) rfl (by rw [Int.sub_zero]; exact wrap64 (by omega) (by omega))) rfl ?_
  refine vp ?_
  refine vc_nil ?_
  refine vc_then ?_
  refine vc_seq ?_
  refine vc_region ?_
  refine vp ?_
  refine vp ?_
  refine vc_nil ?_
  refine vc_then ?_
  first | refine vc_condP rfl (fun c16 => ?_) (fun c16 => ?_) | refine vc_condN rfl (fun c16 => ?_) (fun c16 => ?_) | refine vc_cond rfl (fun c16 => ?_) (fun c16 => ?_)
  ·skip
   refine vc_region ?_
   refine vc_ent (l' := Sl eInt nilS [] :: _) sl_new ?_
   refine vp ?_
   refine vp ?_
   refine vc_y (y_cap Tryz.underlying72 (h := nilS) rfl) rfl ?_
   refine vc_y (y_slice sl_72 (h := nilS) rfl 0 0 0 rfl ⟨_, _, rfl, rfl⟩ rfl (by simp) (by omega) (by omega) (by exact Nat.le_refl _)) rfl ?_
   refine vp ?_
   refine vc_appendZ 0 rfl (E := eInt) (h := nilS.cut (Enc.sz eInt) 0 0 0) (xs := []) (Sl.vis.imp fun w r => by have := r.cut (lo := 0) (hi := 0) (mx := 0) (Nat.le_refl _) (Nat.le_refl _) (Nat.le_refl _) (Nat.zero_le _); simpa using this) (0 : Int) el_72_eInt Tryz.underlying3 ze_3 rfl rfl m rfl (by omega) (by simp [SH.cut]; omega) (by simp; omega) (by simp; omega) rfl (fun h22 hh22 => ?_)
   refine vp ?_
   refine vc_y (y_len Tryz.underlying72 (h := nilS) rfl rfl) rfl ?_
   refine vc_y (y_slice sl_72 (h := h22) rfl 0 0 h22.cap rfl ⟨_, _, rfl, rfl⟩ rfl (by simp) (by omega) (by omega) (by omega)) rfl ?_
   refine vc_turn 0 rfl (Sl eInt (h22.cut (Enc.sz eInt) 0 0 h22.cap) []) (VS.of_ent (by have := Sl.cut (E := eInt) (h := h22) (xs := [] ++ List.replicate m (0 : Int)) (lo := 0) (hi := 0) (mx := h22.cap) (Nat.le_refl _) (Nat.zero_le _) (Nat.zero_le _) (Nat.le_refl _); simpa using this)) ?_
   refine vp ?_
   refine vc_nil ?_
   refine vc_then ?_
   refine vc_seq ?_
   refine vc_region ?_
   refine vp ?_
   refine vp ?_
   refine vc_nil ?_
   refine vc_then ?_
   refine vc_ret ?_
   exact vc_end1 Tryz.results237 rfl _ (ent_pick [0] rfl) ⟨_, rfl, rfl⟩
  ·skip
   refine vc_skip ?_
   refine vc_then ?_
   refine vc_seq ?_
   refine vc_region ?_
   refine vp ?_
   refine vp ?_
   refine vc_nil ?_
   refine vc_then ?_
   refine vc_ret ?_
   exact vc_end1 Tryz.results237 rfl _ (sl_new) ⟨nilS, rfl, rfl⟩
theorem growN_spec {m : Nat} (hb : m ≤ 4000000) :
  Does Tryz.prog 237 [nilS.v, .int .i64 (m : Int)] [] (fun v l => ∃ h', v = h'.v ∧ l = [Sl eNat h' []]) := by
 refine spec_of Tryz.func237 rfl Tryz.ntmps237 Tryz.results237 _ (by simp) fun ι F => ?_
 refine vc_seq ?_
 refine vc_region ?_
 refine vp ?_
 refine vc_nil ?_
 refine vc_then ?_
 refine vc_seq ?_
 refine vc_seq ?_
 refine vc_region ?_
 refine vp ?_
 refine vp ?_
 refine vc_nil ?_
 refine vc_then ?_
 first | refine vc_condP rfl (fun c6 => ?_) (fun c6 => ?_) | refine vc_condN rfl (fun c6 => ?_) (fun c6 => ?_) | refine vc_cond rfl (fun c6 => ?_) (fun c6 => ?_)
 ·skip
  exact absurd c6 (by omega)
 ·skip
  refine vc_skip ?_
  refine vc_then ?_
  refine vc_seq ?_
  refine vc_seq ?_
  refine vc_region ?_
  refine vp ?_
  refine vp ?_
  refine vc_y (y_cap Tryz.underlying72 (h := nilS) rfl) rfl ?_
  refine vp ?_
  refine vc_y (y_len Tryz.underlying72 (h := nilS) rfl rfl) rfl ?_
  refine vc_y (y_arith (0 : Int) rfl (by decide)) rfl ?_
  refine vc_y (y_arith (m : Int) rfl (by rw [Int.sub_zero]; exact wrap64 (by omega) (by omega))) rfl ?_
  refine vp ?_
  refine vc_nil ?_
  refine vc_then ?_
  refine vc_seq ?_
  refine vc_region ?_
  refine vp ?_
  refine vp ?_
  refine vc_nil ?_
  refine vc_then ?_
  first | refine vc_condP rfl (fun c16 => ?_) (fun c16 => ?_) | refine vc_condN rfl (fun c16 => ?_) (fun c16 => ?_) | refine vc_cond rfl (fun c16 => ?_) (fun c16 => ?_)
  ·skip
   refine vc_region ?_
   refine vc_ent (l' := Sl eNat nilS [] :: _) sl_new ?_
   refine vp ?_
   refine vp ?_
   refine vc_y (y_cap Tryz.underlying72 (h := nilS) rfl) rfl ?_
   refine vc_y (y_slice sl_72 (h := nilS) rfl 0 0 0 rfl ⟨_, _, rfl, rfl⟩ rfl (by simp) (by omega) (by omega) (by exact Nat.le_refl _)) rfl ?_
   refine vp ?_
   refine vc_appendZ 0 rfl (E := eNat) (h := nilS.cut (Enc.sz eNat) 0 0 0) (xs := []) (Sl.vis.imp fun w r => by have := r.cut (lo := 0) (hi := 0) (mx := 0) (Nat.le_refl _) (Nat.le_refl _) (Nat.le_refl _) (Nat.zero_le _); simpa using this) (0 : Nat) el_72_eNat Tryz.underlying3 ze_3 rfl rfl m rfl (by omega) (by simp [SH.cut]; omega) (by simp; omega) (by simp; omega) rfl (fun h22 hh22 => ?_)
   refine vp ?_
   refine vc_y (y_len Tryz.underlying72 (h := nilS) rfl rfl) rfl ?_
   refine vc_y (y_slice sl_72 (h := h22) rfl 0 0 h22.cap rfl ⟨_, _, rfl, rfl⟩ rfl (by simp) (by omega) (by omega) (by omega)) rfl ?_
   refine vc_turn 0 rfl (Sl eNat (h22.cut (Enc.sz eNat) 0 0 h22.cap) []) (VS.of_ent (by have := Sl.cut (E := eNat) (h := h22) (xs := [] ++ List.replicate m (0 : Nat)) (lo := 0) (hi := 0) (mx := h22.cap) (Nat.le_refl _) (Nat.zero_le _) (Nat.zero_le _) (Nat.le_refl _); simpa using this)) ?_
   refine vp ?_
   refine vc_nil ?_
   refine vc_then ?_
   refine vc_seq ?_
   refine vc_region ?_
   refine vp ?_
   refine vp ?_
   refine vc_nil ?_
   refine vc_then ?_
   refine vc_ret ?_
   exact vc_end1 Tryz.results237 rfl _ (ent_pick [0] rfl) ⟨_, rfl, rfl⟩
  ·skip
   refine vc_skip ?_
   refine vc_then ?_
   refine vc_seq ?_
   refine vc_region ?_
   refine vp ?_
   refine vp ?_
   refine vc_nil ?_
   refine vc_then ?_
   refine vc_ret ?_
   exact vc_end1 Tryz.results237 rfl _ (sl_new) ⟨nilS, rfl, rfl⟩
theorem catS_spec {B : HP} {hh : SH} {L : List (SH × List ByteArray)} (hB : ∀ p ∈ L, Vis B (Rd eStr p.1 p.2)) (hb : (L.flatMap (·.2)).length ≤ 1000000) (hb2 : L.length ≤ 1000000) :
  Does Tryz.prog 221 [hh.v] [Sl (eSl 136) hh (L.map (·.1)), B] (fun v l => ∃ h', v = h'.v ∧ l = [Sl eStr h' (L.flatMap (·.2)), Sl (eSl 136) hh (L.map (·.1)), B]) := by
 refine spec_of Tryz.func221 rfl Tryz.ntmps221 Tryz.results221 _ (by simp) fun ι F => ?_
 refine vc_see 0 rfl (Sl.vis.imp fun w r => r.len) (fun hlen => ?_)
 rw [List.length_map] at hlen
 have hcl := fun i => cat_le (L := L) i
 refine vc_seq ?_
 refine vc_region ?_
 refine vp ?_
 refine vc_nil ?_
 refine vc_then ?_
 refine vc_seq ?_
 refine vc_region ?_
 refine vp ?_
 refine vc_nil ?_
 refine vc_then ?_
 refine vc_seq ?_
 refine vc_seq ?_
 refine vc_region ?_
 refine vp ?_
 refine vc_y (y_len Tryz.underlying295 rfl hlen) rfl ?_
 refine vp ?_
 refine vc_nil ?_
 refine vc_then ?_
 refine vc_block ?_
 refine vc_loop (α := Nat) (fun x => match x with | i => [(0, hh.v), (3, .int .i64 ((catN L i).length : Int)), (9, hh.v), (10, .int .i64 (L.length : Int)), (11, .int .i64 (i : Int))]) (fun x => match x with | i => [Sl (eSl 136) hh (L.map (·.1)), B]) (fun x => match x with | i => L.length - i) (fun x => match x with | i => i ≤ L.length) 0 (Nat.zero_le _) ⟨rfl, rfl, rfl, rfl, rfl, trivial⟩ (ent_pick [0, 0] rfl) ?_
 rintro i hi
 show VC _ _ _ _ [(0, hh.v), (3, .int .i64 ((catN L i).length : Int)), (9, hh.v), (10, .int .i64 (L.length : Int)), (11, .int .i64 (i : Int))] ([Sl (eSl 136) hh (L.map (·.1)), B])
 have hcli := hcl i
 refine vc_seq ?_
 refine vc_region ?_
 refine vp ?_
 refine vc_nil ?_
 refine vc_then ?_
 refine vc_seq ?_
 first | refine vc_condP rfl (fun c12 => ?_) (fun c12 => ?_) | refine vc_condN rfl (fun c12 => ?_) (fun c12 => ?_) | refine vc_cond rfl (fun c12 => ?_) (fun c12 => ?_)
 ·skip
  obtain ⟨p, hp⟩ : ∃ p, L[i]? = some p := ⟨_, List.getElem?_eq_getElem (by omega)⟩
  have hpv := hB p (List.mem_of_getElem? hp)
  refine vc_see 1 rfl (hpv.imp fun w r => r.len) (fun hpl => ?_)
  have hcs := cat_succ hp
  have hcl2 := hcl (i + 1)
  rw [hcs, List.length_append] at hcl2
  refine vc_skip ?_
  refine vc_then ?_
  refine vc_seq ?_
  refine vc_block ?_
  refine vc_seq ?_
  refine vc_region ?_
  refine vc_y (y_elem 0 rfl (Sl.vis) i rfl (by rw [List.length_map]; omega) sl_295 rfl rfl) rfl ?_
  refine vc_y (y_load1 0 rfl one_136 rfl (Rd.vis1 (Sl.vis) (by rw [List.getElem?_map, hp]; rfl) rfl)) rfl ?_
  refine vp ?_
  refine vc_nil ?_
  refine vc_then ?_
  refine vc_seq ?_
  refine vc_region ?_
  refine vp ?_
  refine vp ?_
  refine vc_y (y_len Tryz.underlying136 rfl hpl) rfl ?_
  refine vc_y (y_arith ((catN L (i + 1)).length : Int) rfl (by rw [hcs, List.length_append, Int.natCast_add]; exact wrap64 (by omega) (by omega))) rfl ?_
  refine vp ?_
  refine vc_nil ?_
  refine vc_then ?_
  refine vc_seq ?_
  refine vc_region ?_
  refine vp ?_
  refine vp ?_
  refine vc_nil ?_
  refine vc_then ?_
  first | refine vc_condP rfl (fun c20 => ?_) (fun c20 => ?_) | refine vc_condN rfl (fun c20 => ?_) (fun c20 => ?_) | refine vc_cond rfl (fun c20 => ?_) (fun c20 => ?_)
  ·skip
   exact absurd c20 (by omega)
  ·skip
   refine vc_skip ?_
   refine vc_inNormal ?_
   refine vc_then ?_
   refine vc_region ?_
   first | refine vc_y (y_arith _ rfl (wrapNadd (by omega))) rfl ?_ | refine vc_y (y_arith _ rfl (wrap64 (by omega) (by omega))) rfl ?_ | refine vp ?_
   refine vp ?_
   refine vc_nil ?_
   refine vc_then ?_
   exact vc_again (x := i) (i + 1) (by omega) (by show L.length - (i + 1) < L.length - i; omega) ⟨rfl, rfl, rfl, rfl, rfl, trivial⟩ (ent_pick [0, 0] rfl)
 ·skip
  obtain rfl : i = L.length := by omega
  refine vc_exit ?_
  refine vc_thenExit ?_
  refine vc_thenExit ?_
  refine vc_inExit ?_
  refine vc_then ?_
  refine vc_seq ?_
  refine vc_region ?_
  refine vp ?_
  refine vc_callv ca_236 (us := []) (vs := []) rfl [_, _] rfl [] rfl (growS_spec (by omega)) rfl ?_
  rintro _ _ ⟨g0, rfl, rfl⟩
  refine vp ?_
  refine vc_nil ?_
  refine vc_then ?_
  refine vc_seq ?_
  refine vc_seq ?_
  refine vc_region ?_
  refine vp ?_
  refine vc_y (y_len Tryz.underlying295 rfl hlen) rfl ?_
  refine vp ?_
  refine vc_nil ?_
  refine vc_then ?_
  refine vc_block ?_
  refine vc_loop (α := Nat × SH) (fun x => match x with | (i, g) => [(6, g.v), (25, hh.v), (26, .int .i64 (L.length : Int)), (27, .int .i64 (i : Int))]) (fun x => match x with | (i, g) => [Sl eStr g (catN L i), Sl (eSl 136) hh (L.map (·.1)), B]) (fun x => match x with | (i, g) => L.length - i) (fun x => match x with | (i, g) => i ≤ L.length) (0, g0) (Nat.zero_le _) ⟨rfl, rfl, rfl, rfl, trivial⟩ (ent_pick [0, 0, 0] rfl) ?_
  rintro ⟨i, g⟩ hi
  show VC _ _ _ _ [(6, g.v), (25, hh.v), (26, .int .i64 (L.length : Int)), (27, .int .i64 (i : Int))] ([Sl eStr g (catN L i), Sl (eSl 136) hh (L.map (·.1)), B])
  have hcli := hcl i
  refine vc_seq ?_
  refine vc_region ?_
  refine vp ?_
  refine vc_nil ?_
  refine vc_then ?_
  refine vc_seq ?_
  first | refine vc_condP rfl (fun c28 => ?_) (fun c28 => ?_) | refine vc_condN rfl (fun c28 => ?_) (fun c28 => ?_) | refine vc_cond rfl (fun c28 => ?_) (fun c28 => ?_)
  ·skip
   obtain ⟨p, hp⟩ : ∃ p, L[i]? = some p := ⟨_, List.getElem?_eq_getElem (by omega)⟩
   have hpv := hB p (List.mem_of_getElem? hp)
   have hcs := cat_succ hp
   have hcl2 := hcl (i + 1)
   rw [hcs, List.length_append] at hcl2
   refine vc_skip ?_
   refine vc_then ?_
   refine vc_seq ?_
   refine vc_block ?_
   refine vc_seq ?_
   refine vc_region ?_
   refine vc_y (y_elem 1 rfl (Sl.vis) i rfl (by rw [List.length_map]; omega) sl_295 rfl rfl) rfl ?_
   refine vc_y (y_load1 1 rfl one_136 rfl (Rd.vis1 (Sl.vis) (by rw [List.getElem?_map, hp]; rfl) rfl)) rfl ?_
   refine vp ?_
   refine vc_nil ?_
   refine vc_then ?_
   refine vc_region ?_
   refine vp ?_
   refine vp ?_
   refine vc_append 0 rfl 2 rfl hpv el_136_eStr Tryz.underlying136 rfl rfl (by omega) (by omega) rfl (fun h33 => ?_)
   refine vc_re 0 rfl (congrArg (Sl eStr h33) hcs.symm) ?_
   refine vp ?_
   refine vc_nil ?_
   refine vc_inNormal ?_
   refine vc_then ?_
   refine vc_region ?_
   first | refine vc_y (y_arith _ rfl (wrapNadd (by omega))) rfl ?_ | refine vc_y (y_arith _ rfl (wrap64 (by omega) (by omega))) rfl ?_ | refine vp ?_
   refine vp ?_
   refine vc_nil ?_
   refine vc_then ?_
   exact vc_again (x := (i, g)) (i + 1, h33) (by show i + 1 ≤ L.length; omega) (by show L.length - (i + 1) < L.length - i; omega) ⟨rfl, rfl, rfl, rfl, trivial⟩ (ent_pick [0, 0, 0] rfl)
  ·skip
   obtain rfl : i = L.length := by omega
   rw [cat_all]
   refine vc_exit ?_
   refine vc_thenExit ?_
   refine vc_thenExit ?_
   refine vc_inExit ?_
   refine vc_then ?_
   refine vc_seq ?_
   refine vc_region ?_
   refine vp ?_
   refine vp ?_
   refine vc_nil ?_
   refine vc_then ?_
   refine vc_ret ?_
   exact vc_end1 Tryz.results221 rfl _ (ent_pick [0, 0, 0] rfl) ⟨g, rfl, rfl⟩
theorem catI_spec {B : HP} {hh : SH} {L : List (SH × List Int)} (hB : ∀ p ∈ L, Vis B (Rd eInt p.1 p.2)) (hb : (L.flatMap (·.2)).length ≤ 1000000) (hb2 : L.length ≤ 1000000) :
  Does Tryz.prog 222 [hh.v] [Sl (eSl 72) hh (L.map (·.1)), B] (fun v l => ∃ h', v = h'.v ∧ l = [Sl eInt h' (L.flatMap (·.2)), Sl (eSl 72) hh (L.map (·.1)), B]) := by
 refine spec_of Tryz.func222 rfl Tryz.ntmps222 Tryz.results222 _ (by simp) fun ι F => ?_
 refine vc_see 0 rfl (Sl.vis.imp fun w r => r.len) (fun hlen => ?_)
 rw [List.length_map] at hlen
 have hcl := fun i => cat_le (L := L) i
 refine vc_seq ?_
 refine vc_region ?_
 refine vp ?_
 refine vc_nil ?_
 refine vc_then ?_
 refine vc_seq ?_
 refine vc_region ?_
 refine vp ?_
 refine vc_nil ?_
 refine vc_then ?_
 refine vc_seq ?_
 refine vc_seq ?_
 refine vc_region ?_
 refine vp ?_
 refine vc_y (y_len Tryz.underlying297 rfl hlen) rfl ?_
 refine vp ?_
 refine vc_nil ?_
 refine vc_then ?_
 refine vc_block ?_
 refine vc_loop (α := Nat) (fun x => match x with | i => [(0, hh.v), (3, .int .i64 ((catN L i).length : Int)), (9, hh.v), (10, .int .i64 (L.length : Int)), (11, .int .i64 (i : Int))]) (fun x => match x with | i => [Sl (eSl 72) hh (L.map (·.1)), B]) (fun x => match x with | i => L.length - i) (fun x => match x with | i => i ≤ L.length) 0 (Nat.zero_le _) ⟨rfl, rfl, rfl, rfl, rfl, trivial⟩ (ent_pick [0, 0] rfl) ?_
 rintro i hi
 show VC _ _ _ _ [(0, hh.v), (3, .int .i64 ((catN L i).length : Int)), (9, hh.v), (10, .int .i64 (L.length : Int)), (11, .int .i64 (i : Int))] ([Sl (eSl 72) hh (L.map (·.1)), B])
 have hcli := hcl i
 refine vc_seq ?_
 refine vc_region ?_
 refine vp ?_
 refine vc_nil ?_
 refine vc_then ?_
 refine vc_seq ?_
 first | refine vc_condP rfl (fun c12 => ?_) (fun c12 => ?_) | refine vc_condN rfl (fun c12 => ?_) (fun c12 => ?_) | refine vc_cond rfl (fun c12 => ?_) (fun c12 => ?_)
 ·skip
  obtain ⟨p, hp⟩ : ∃ p, L[i]? = some p := ⟨_, List.getElem?_eq_getElem (by omega)⟩
  have hpv := hB p (List.mem_of_getElem? hp)
  refine vc_see 1 rfl (hpv.imp fun w r => r.len) (fun hpl => ?_)
  have hcs := cat_succ hp
  have hcl2 := hcl (i + 1)
  rw [hcs, List.length_append] at hcl2
  refine vc_skip ?_
  refine vc_then ?_
  refine vc_seq ?_
  refine vc_block ?_
  refine vc_seq ?_
  refine vc_region ?_
  refine vc_y (y_elem 0 rfl (Sl.vis) i rfl (by rw [List.length_map]; omega) sl_297 rfl rfl) rfl ?_
  refine vc_y (y_load1 0 rfl one_72 rfl (Rd.vis1 (Sl.vis) (by rw [List.getElem?_map, hp]; rfl) rfl)) rfl ?_
  refine vp ?_
  refine vc_nil ?_
  refine vc_then ?_
  refine vc_seq ?_
  refine vc_region ?_
  refine vp ?_
  refine vp ?_
  refine vc_y (y_len Tryz.underlying72 rfl hpl) rfl ?_
  refine vc_y (y_arith ((catN L (i + 1)).length : Int) rfl (by rw [hcs, List.length_append, Int.natCast_add]; exact wrap64 (by omega) (by omega))) rfl ?_
  refine vp ?_
  refine vc_nil ?_
  refine vc_then ?_
  refine vc_seq ?_
  refine vc_region ?_
  refine vp ?_
  refine vp ?_
  refine vc_nil ?_
  refine vc_then ?_
  first | refine vc_condP rfl (fun c20 => ?_) (fun c20 => ?_) | refine vc_condN rfl (fun c20 => ?_) (fun c20 => ?_) | refine vc_cond rfl (fun c20 => ?_) (fun c20 => ?_)
  ·skip
   exact absurd c20 (by omega)
  ·skip
   refine vc_skip ?_
   refine vc_inNormal ?_
   refine vc_then ?_
   refine vc_region ?_
   first | refine vc_y (y_arith _ rfl (wrapNadd (by omega))) rfl ?_ | refine vc_y (y_arith _ rfl (wrap64 (by omega) (by omega))) rfl ?_ | refine vp ?_
   refine vp ?_
   refine vc_nil ?_
   refine vc_then ?_
   exact vc_again (x := i) (i + 1) (by omega) (by show L.length - (i + 1) < L.length - i; omega) ⟨rfl, rfl, rfl, rfl, rfl, trivial⟩ (ent_pick [0, 0] rfl)
 ·skip
  obtain rfl : i = L.length := by omega
  refine vc_exit ?_
  refine vc_thenExit ?_
  refine vc_thenExit ?_
  refine vc_inExit ?_
  refine vc_then ?_
  refine vc_seq ?_
  refine vc_region ?_
  refine vp ?_
  refine vc_callv ca_237 (us := []) (vs := []) rfl [_, _] rfl [] rfl (growI_spec (by omega)) rfl ?_
  rintro _ _ ⟨g0, rfl, rfl⟩
  refine vp ?_
  refine vc_nil ?_
  refine vc_then ?_
  refine vc_seq ?_
  refine vc_seq ?_
  refine vc_region ?_
  refine vp ?_
  refine vc_y (y_len Tryz.underlying297 rfl hlen) rfl ?_
  refine vp ?_
  refine vc_nil ?_
  refine vc_then ?_
  refine vc_block ?_
  refine vc_loop (α := Nat × SH) (fun x => match x with | (i, g) => [(6, g.v), (25, hh.v), (26, .int .i64 (L.length : Int)), (27, .int .i64 (i : Int))]) (fun x => match x with | (i, g) => [Sl eInt g (catN L i), Sl (eSl 72) hh (L.map (·.1)), B]) (fun x => match x with | (i, g) => L.length - i) (fun x => match x with | (i, g) => i ≤ L.length) (0, g0) (Nat.zero_le _) ⟨rfl, rfl, rfl, rfl, trivial⟩ (ent_pick [0, 0, 0] rfl) ?_
  rintro ⟨i, g⟩ hi
  show VC _ _ _ _ [(6, g.v), (25, hh.v), (26, .int .i64 (L.length : Int)), (27, .int .i64 (i : Int))] ([Sl eInt g (catN L i), Sl (eSl 72) hh (L.map (·.1)), B])
  have hcli := hcl i
  refine vc_seq ?_
  refine vc_region ?_
  refine vp ?_
  refine vc_nil ?_
  refine vc_then ?_
  refine vc_seq ?_
  first | refine vc_condP rfl (fun c28 => ?_) (fun c28 => ?_) | refine vc_condN rfl (fun c28 => ?_) (fun c28 => ?_) | refine vc_cond rfl (fun c28 => ?_) (fun c28 => ?_)
  ·skip
   obtain ⟨p, hp⟩ : ∃ p, L[i]? = some p := ⟨_, List.getElem?_eq_getElem (by omega)⟩
   have hpv := hB p (List.mem_of_getElem? hp)
   have hcs := cat_succ hp
   have hcl2 := hcl (i + 1)
   rw [hcs, List.length_append] at hcl2
   refine vc_skip ?_
   refine vc_then ?_
   refine vc_seq ?_
   refine vc_block ?_
   refine vc_seq ?_
   refine vc_region ?_
   refine vc_y (y_elem 1 rfl (Sl.vis) i rfl (by rw [List.length_map]; omega) sl_297 rfl rfl) rfl ?_
   refine vc_y (y_load1 1 rfl one_72 rfl (Rd.vis1 (Sl.vis) (by rw [List.getElem?_map, hp]; rfl) rfl)) rfl ?_
   refine vp ?_
   refine vc_nil ?_
   refine vc_then ?_
   refine vc_region ?_
   refine vp ?_
   refine vp ?_
   refine vc_append 0 rfl 2 rfl hpv el_72_eInt Tryz.underlying72 rfl rfl (by omega) (by omega) rfl (fun h33 => ?_)
   refine vc_re 0 rfl (congrArg (Sl eInt h33) hcs.symm) ?_
   refine vp ?_
   refine vc_nil ?_
   refine vc_inNormal ?_
   refine vc_then ?_
   refine vc_region ?_
   first | refine vc_y (y_arith _ rfl (wrapNadd (by omega))) rfl ?_ | refine vc_y (y_arith _ rfl (wrap64 (by omega) (by omega))) rfl ?_ | refine vp ?_
   refine vp ?_
   refine vc_nil ?_
   refine vc_then ?_
   exact vc_again (x := (i, g)) (i + 1, h33) (by show i + 1 ≤ L.length; omega) (by show L.length - (i + 1) < L.length - i; omega) ⟨rfl, rfl, rfl, rfl, trivial⟩ (ent_pick [0, 0, 0] rfl)
  ·skip
   obtain rfl : i = L.length := by omega
   rw [cat_all]
   refine vc_exit ?_
   refine vc_thenExit ?_
   refine vc_thenExit ?_
   refine vc_inExit ?_
   refine vc_then ?_
   refine vc_seq ?_
   refine vc_region ?_
   refine vp ?_
   refine vp ?_
   refine vc_nil ?_
   refine vc_then ?_
   refine vc_ret ?_
   exact vc_end1 Tryz.results222 rfl _ (ent_pick [0, 0, 0] rfl) ⟨g, rfl, rfl⟩
theorem catN_spec {B : HP} {hh : SH} {L : List (SH × List Nat)} (hB : ∀ p ∈ L, Vis B (Rd eNat p.1 p.2)) (hb : (L.flatMap (·.2)).length ≤ 1000000) (hb2 : L.length ≤ 1000000) :
  Does Tryz.prog 222 [hh.v] [Sl (eSl 72) hh (L.map (·.1)), B] (fun v l => ∃ h', v = h'.v ∧ l = [Sl eNat h' (L.flatMap (·.2)), Sl (eSl 72) hh (L.map (·.1)), B]) := by
 refine spec_of Tryz.func222 rfl Tryz.ntmps222 Tryz.results222 _ (by simp) fun ι F => ?_
 refine vc_see 0 rfl (Sl.vis.imp fun w r => r.len) (fun hlen => ?_)
 rw [List.length_map] at hlen
 have hcl := fun i => cat_le (L := L) i
 refine vc_seq ?_
 refine vc_region ?_
 refine vp ?_
 refine vc_nil ?_
 refine vc_then ?_
 refine vc_seq ?_
 refine vc_region ?_
 refine vp ?_
 refine vc_nil ?_
 refine vc_then ?_
 refine vc_seq ?_
 refine vc_seq ?_
 refine vc_region ?_
 refine vp ?_
 refine vc_y (y_len Tryz.underlying297 rfl hlen) rfl ?_
 refine vp ?_
 refine vc_nil ?_
 refine vc_then ?_
 refine vc_block ?_
 refine vc_loop (α := Nat) (fun x => match x with | i => [(0, hh.v), (3, .int .i64 ((catN L i).length : Int)), (9, hh.v), (10, .int .i64 (L.length : Int)), (11, .int .i64 (i : Int))]) (fun x => match x with | i => [Sl (eSl 72) hh (L.map (·.1)), B]) (fun x => match x with | i => L.length - i) (fun x => match x with | i => i ≤ L.length) 0 (Nat.zero_le _) ⟨rfl, rfl, rfl, rfl, rfl, trivial⟩ (ent_pick [0, 0] rfl) ?_
 rintro i hi
 show VC _ _ _ _ [(0, hh.v), (3, .int .i64 ((catN L i).length : Int)), (9, hh.v), (10, .int .i64 (L.length : Int)), (11, .int .i64 (i : Int))] ([Sl (eSl 72) hh (L.map (·.1)), B])
 have hcli := hcl i
 refine vc_seq ?_
 refine vc_region ?_
 refine vp ?_
 refine vc_nil ?_
 refine vc_then ?_
 refine vc_seq ?_
 first | refine vc_condP rfl (fun c12 => ?_) (fun c12 => ?_) | refine vc_condN rfl (fun c12 => ?_) (fun c12 => ?_) | refine vc_cond rfl (fun c12 => ?_) (fun c12 => ?_)
 ·skip
  obtain ⟨p, hp⟩ : ∃ p, L[i]? = some p := ⟨_, List.getElem?_eq_getElem (by omega)⟩
  have hpv := hB p (List.mem_of_getElem? hp)
  refine vc_see 1 rfl (hpv.imp fun w r => r.len) (fun hpl => ?_)
  have hcs := cat_succ hp
  have hcl2 := hcl (i + 1)
  rw [hcs, List.length_append] at hcl2
  refine vc_skip ?_
  refine vc_then ?_
  refine vc_seq ?_
  refine vc_block ?_
  refine vc_seq ?_
  refine vc_region ?_
  refine vc_y (y_elem 0 rfl (Sl.vis) i rfl (by rw [List.length_map]; omega) sl_297 rfl rfl) rfl ?_
  refine vc_y (y_load1 0 rfl one_72 rfl (Rd.vis1 (Sl.vis) (by rw [List.getElem?_map, hp]; rfl) rfl)) rfl ?_
  refine vp ?_
  refine vc_nil ?_
  refine vc_then ?_
  refine vc_seq ?_
  refine vc_region ?_
  refine vp ?_
  refine vp ?_
  refine vc_y (y_len Tryz.underlying72 rfl hpl) rfl ?_
  refine vc_y (y_arith ((catN L (i + 1)).length : Int) rfl (by rw [hcs, List.length_append, Int.natCast_add]; exact wrap64 (by omega) (by omega))) rfl ?_
  refine vp ?_
  refine vc_nil ?_
  refine vc_then ?_
  refine vc_seq ?_
  refine vc_region ?_
  refine vp ?_
  refine vp ?_
  refine vc_nil ?_
  refine vc_then ?_
  first | refine vc_condP rfl (fun c20 => ?_) (fun c20 => ?_) | refine vc_condN rfl (fun c20 => ?_) (fun c20 => ?_) | refine vc_cond rfl (fun c20 => ?_) (fun c20 => ?_)
  ·skip
   exact absurd c20 (by omega)
  ·skip
   refine vc_skip ?_
   refine vc_inNormal ?_
   refine vc_then ?_
   refine vc_region ?_
   first | refine vc_y (y_arith _ rfl (wrapNadd (by omega))) rfl ?_ | refine vc_y (y_arith _ rfl (wrap64 (by omega) (by omega))) rfl ?_ | refine vp ?_
   refine vp ?_
   refine vc_nil ?_
   refine vc_then ?_
   exact vc_again (x := i) (i + 1) (by omega) (by show L.length - (i + 1) < L.length - i; omega) ⟨rfl, rfl, rfl, rfl, rfl, trivial⟩ (ent_pick [0, 0] rfl)
 ·skip
  obtain rfl : i = L.length := by omega
  refine vc_exit ?_
  refine vc_thenExit ?_
  refine vc_thenExit ?_
  refine vc_inExit ?_
  refine vc_then ?_
  refine vc_seq ?_
  refine vc_region ?_
  refine vp ?_
  refine vc_callv ca_237 (us := []) (vs := []) rfl [_, _] rfl [] rfl (growN_spec (by omega)) rfl ?_
  rintro _ _ ⟨g0, rfl, rfl⟩
  refine vp ?_
  refine vc_nil ?_
  refine vc_then ?_
  refine vc_seq ?_
  refine vc_seq ?_
  refine vc_region ?_
  refine vp ?_
  refine vc_y (y_len Tryz.underlying297 rfl hlen) rfl ?_
  refine vp ?_
  refine vc_nil ?_
  refine vc_then ?_
  refine vc_block ?_
  refine vc_loop (α := Nat × SH) (fun x => match x with | (i, g) => [(6, g.v), (25, hh.v), (26, .int .i64 (L.length : Int)), (27, .int .i64 (i : Int))]) (fun x => match x with | (i, g) => [Sl eNat g (catN L i), Sl (eSl 72) hh (L.map (·.1)), B]) (fun x => match x with | (i, g) => L.length - i) (fun x => match x with | (i, g) => i ≤ L.length) (0, g0) (Nat.zero_le _) ⟨rfl, rfl, rfl, rfl, trivial⟩ (ent_pick [0, 0, 0] rfl) ?_
  rintro ⟨i, g⟩ hi
  show VC _ _ _ _ [(6, g.v), (25, hh.v), (26, .int .i64 (L.length : Int)), (27, .int .i64 (i : Int))] ([Sl eNat g (catN L i), Sl (eSl 72) hh (L.map (·.1)), B])
  have hcli := hcl i
  refine vc_seq ?_
  refine vc_region ?_
  refine vp ?_
  refine vc_nil ?_
  refine vc_then ?_
  refine vc_seq ?_
  first | refine vc_condP rfl (fun c28 => ?_) (fun c28 => ?_) | refine vc_condN rfl (fun c28 => ?_) (fun c28 => ?_) | refine vc_cond rfl (fun c28 => ?_) (fun c28 => ?_)
  ·skip
   obtain ⟨p, hp⟩ : ∃ p, L[i]? = some p := ⟨_, List.getElem?_eq_getElem (by omega)⟩
   have hpv := hB p (List.mem_of_getElem? hp)
   have hcs := cat_succ hp
   have hcl2 := hcl (i + 1)
   rw [hcs, List.length_append] at hcl2
   refine vc_skip ?_
   refine vc_then ?_
   refine vc_seq ?_
   refine vc_block ?_
   refine vc_seq ?_
   refine vc_region ?_
   refine vc_y (y_elem 1 rfl (Sl.vis) i rfl (by rw [List.length_map]; omega) sl_297 rfl rfl) rfl ?_
   refine vc_y (y_load1 1 rfl one_72 rfl (Rd.vis1 (Sl.vis) (by rw [List.getElem?_map, hp]; rfl) rfl)) rfl ?_
   refine vp ?_
   refine vc_nil ?_
   refine vc_then ?_
   refine vc_region ?_
   refine vp ?_
   refine vp ?_
   refine vc_append 0 rfl 2 rfl hpv el_72_eNat Tryz.underlying72 rfl rfl (by omega) (by omega) rfl (fun h33 => ?_)
   refine vc_re 0 rfl (congrArg (Sl eNat h33) hcs.symm) ?_
   refine vp ?_
   refine vc_nil ?_
   refine vc_inNormal ?_
   refine vc_then ?_
   refine vc_region ?_
   first | refine vc_y (y_arith _ rfl (wrapNadd (by omega))) rfl ?_ | refine vc_y (y_arith _ rfl (wrap64 (by omega) (by omega))) rfl ?_ | refine vp ?_
   refine vp ?_
   refine vc_nil ?_
   refine vc_then ?_
   exact vc_again (x := (i, g)) (i + 1, h33) (by show i + 1 ≤ L.length; omega) (by show L.length - (i + 1) < L.length - i; omega) ⟨rfl, rfl, rfl, rfl, trivial⟩ (ent_pick [0, 0, 0] rfl)
  ·skip
   obtain rfl : i = L.length := by omega
   rw [cat_all]
   refine vc_exit ?_
   refine vc_thenExit ?_
   refine vc_thenExit ?_
   refine vc_inExit ?_
   refine vc_then ?_
   refine vc_seq ?_
   refine vc_region ?_
   refine vp ?_
   refine vp ?_
   refine vc_nil ?_
   refine vc_then ?_
   refine vc_ret ?_
   exact vc_end1 Tryz.results222 rfl _ (ent_pick [0, 0, 0] rfl) ⟨g, rfl, rfl⟩
end Go.Proofs.YtcpbibdbahfgaaaGreat
