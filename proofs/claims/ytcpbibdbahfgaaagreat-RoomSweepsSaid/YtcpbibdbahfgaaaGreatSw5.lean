/-
 Concats.
-/
import Derived.Test.YtcpbibdbahfgaaaGreatSw4
import Derived.Test.YtcpbibdbahfgaaaGreatSw3
set_option linter.unusedVariables false
set_option linter.unusedSimpArgs false
set_option autoImplicit false
namespace Go.Proofs.YtcpbibdbahfgaaaGreat
open Go.Eng
namespace FSl4
theorem el_136_eStr : TyEl Tryz.prog 136 eStr 16 := ⟨Tryz.underlying136, .string ⟨#[]⟩, by kernel_rfl, rfl⟩
theorem ze_9 : (Tryz.prog.info? 9).map (·.zero) = some (some (.string ⟨#[]⟩)) := by kernel_rfl
theorem sl_136 : TySl Tryz.prog 136 9 1 := ⟨Tryz.underlying136, by kernel_rfl⟩
theorem el_72_eInt : TyEl Tryz.prog 72 eInt 8 := ⟨Tryz.underlying72, .int .i64 0, by kernel_rfl, rfl⟩
theorem ze_3 : (Tryz.prog.info? 3).map (·.zero) = some (some (.int .i64 0)) := by kernel_rfl
theorem sl_72 : TySl Tryz.prog 72 3 1 := ⟨Tryz.underlying72, by kernel_rfl⟩
theorem el_72_eNat : TyEl Tryz.prog 72 eNat 8 := ⟨Tryz.underlying72, .int .i64 0, by kernel_rfl, rfl⟩
theorem sl_295 : TySl Tryz.prog 295 136 1 := ⟨Tryz.underlying295, by kernel_rfl⟩
theorem one_136 : TyOne Tryz.prog 136 := ⟨⟨_, Tryz.underlying136, rfl⟩, by kernel_rfl⟩
theorem ca_236 : Callable Tryz.prog 236 := ⟨_, _, Tryz.func236, rfl, rfl⟩
theorem sl_297 : TySl Tryz.prog 297 72 1 := ⟨Tryz.underlying297, by kernel_rfl⟩
theorem one_72 : TyOne Tryz.prog 72 := ⟨⟨_, Tryz.underlying72, rfl⟩, by kernel_rfl⟩
theorem ca_237 : Callable Tryz.prog 237 := ⟨_, _, Tryz.func237, rfl, rfl⟩
end FSl4
open FSl4
def eSl (t : Nat) : Enc SH := ⟨t, 1, fun h => [h.v], fun _ => rfl, fun _ c h => by simp at h; subst h; rfl, by decide⟩
theorem growS_spec {m : Nat} (hb : m ≤ 4000000) :
  Does Tryz.prog 236 [nilS.v, .int .i64 (m : Int)] [] (fun v l => ∃ h', v = h'.v ∧ l = [Sl eStr h' []]) := by
 refine spec_of Tryz.func236 rfl Tryz.ntmps236 Tryz.results236 _ (by simp) fun ι F => ?_
 refine vc_seq ?_
 refine vc_region ?_
 refine vp ?_
 refine vc_nil ?_
 refine vc_then ?_
 refine vc_seq ?_
 refine vc_seq ?_
 refine vc_region ?_
 refine vp ?_
 refine vp ?_
 refine vc_nil ?_
 refine vc_then ?_
 first | refine vc_condP rfl (fun c6 => ?_) (fun c6 => ?_) | refine vc_condN rfl (fun c6 => ?_) (fun c6 => ?_) | refine vc_cond rfl (fun c6 => ?_) (fun c6 => ?_)
 ·skip
  exact absurd c6 (by omega)
 ·skip
  refine vc_skip ?_
  refine vc_then ?_
  refine vc_seq ?_
  refine vc_seq ?_
  refine vc_region ?_
  refine vp ?_
  refine vp ?_
  refine vc_y (y_cap Tryz.underlying136 (h := nilS) rfl) rfl ?_
  refine vp ?_
  refine vc_y (y_len Tryz.underlying136 (h := nilS) rfl rfl) rfl ?_
  refine vc_y (y_arith (0 : Int) rfl (by decide)) rfl ?_
  refine vc_y (y_arith (m : Int) rfl (by rw [Int.sub_zero]; exact wrap64 (by omega) (by omega))) rfl ?_
  refine vp ?_
  refine vc_nil ?_
  refine vc_then ?_
  refine vc_seq ?_
  refine vc_region ?_
  refine vp ?_
  refine vp ?_
  refine vc_nil ?_
  refine vc_then ?_
  first | refine vc_condP rfl (fun c16 => ?_) (fun c16 => ?_) | refine vc_condN rfl (fun c16 => ?_) (fun c16 => ?_) | refine vc_cond rfl (fun c16 => ?_) (fun c16 => ?_)
  ·skip
   refine vc_region ?_
   refine vc_ent (l' := Sl eStr nilS [] :: _) sl_new ?_
   refine vp ?_
   refine vp ?_
   refine vc_y (y_cap Tryz.underlying136 (h := nilS) rfl) rfl ?_
   refine vc_y (y_slice sl_136 (h := nilS) rfl 0 0 0 rfl ⟨_, _, rfl, rfl⟩ rfl (by simp) (by omega) (by omega) (by exact Nat.le_refl _)) rfl ?_
   refine vp ?_
   refine vc_appendZ 0 rfl (E := eStr) (h := nilS.cut (Enc.sz eStr) 0 0 0) (xs := []) (Sl.vis.imp fun w r => by have := r.cut (lo := 0) (hi := 0) (mx := 0) (Nat.le_refl _) (Nat.le_refl _) (Nat.le_refl _) (Nat.zero_le _); simpa using this) (⟨#[]⟩ : ByteArray) el_136_eStr Tryz.underlying3 ze_9 rfl rfl m rfl (by omega) (by simp [SH.cut]; omega) (by simp; omega) (by simp; omega) rfl (fun h22 hh22 => ?_)
   refine vp ?_
   refine vc_y (y_len Tryz.underlying136 (h := nilS) rfl rfl) rfl ?_
   refine vc_y (y_slice sl_136 (h := h22) rfl 0 0 h22.cap rfl ⟨_, _, rfl, rfl⟩ rfl (by simp) (by omega) (by omega) (by omega)) rfl ?_
   refine vc_turn 0 rfl (Sl eStr (h22.cut (Enc.sz eStr) 0 0 h22.cap) []) (VS.of_ent (by have := Sl.cut (E := eStr) (h := h22) (xs := [] ++ List.replicate m (⟨#[]⟩ : ByteArray)) (lo := 0) (hi := 0) (mx := h22.cap) (Nat.le_refl _) (Nat.zero_le _) (Nat.zero_le _) (Nat.le_refl _); simpa using this)) ?_
   refine vp ?_
   refine vc_nil ?_
   refine vc_then ?_
   refine vc_seq ?_
   refine vc_region ?_
   refine vp ?_
   refine vp ?_
   refine vc_nil ?_
   refine vc_then ?_
   refine vc_ret ?_
   exact vc_end1 Tryz.results236 rfl _ (ent_pick [0] rfl) ⟨_, rfl, rfl⟩
  ·skip
   refine vc_skip ?_
   refine vc_then ?_
   refine vc_seq ?_
   refine vc_region ?_
   refine vp ?_
   refine vp ?_
   refine vc_nil ?_
   refine vc_then ?_
   refine vc_ret ?_
   exact vc_end1 Tryz.results236 rfl _ (sl_new) ⟨nilS, rfl, rfl⟩
theorem growI_spec {m : Nat} (hb : m ≤ 4000000) :
  Does Tryz.prog 237 [nilS.v, .int .i64 (m : Int)] [] (fun v l => ∃ h', v = h'.v ∧ l = [Sl eInt h' []]) := by
 refine spec_of Tryz.func237 rfl Tryz.ntmps237 Tryz.results237 _ (by simp) fun ι F => ?_
 refine vc_seq ?_
 refine vc_region ?_
 refine vp ?_
 refine vc_nil ?_
 refine vc_then ?_
 refine vc_seq ?_
 refine vc_seq ?_
 refine vc_region ?_
 refine vp ?_
 refine vp ?_
 refine vc_nil ?_
 refine vc_then ?_
 first | refine vc_condP rfl (fun c6 => ?_) (fun c6 => ?_) | refine vc_condN rfl (fun c6 => ?_) (fun c6 => ?_) | refine vc_cond rfl (fun c6 => ?_) (fun c6 => ?_)
 ·skip
  exact absurd c6 (by omega)
 ·skip
  refine vc_skip ?_
  refine vc_then ?_
  refine vc_seq ?_
  refine vc_seq ?_
  refine vc_region ?_
  refine vp ?_
  refine vp ?_
  refine vc_y (y_cap Tryz.underlying72 (h := nilS) rfl) rfl ?_
  refine vp ?_
  refine vc_y (y_len Tryz.underlying72 (h := nilS) rfl rfl) rfl ?_
  refine vc_y (y_arith (0 : Int) rfl (by decide)) rfl ?_
  refine vc_y (y_arith (m : Int) rfl (by rw [Int.sub_zero]; exact wrap64 (by omega) (by omega))) rfl ?_
  refine vp ?_
  refine vc_nil ?_
  refine vc_then ?_
  refine vc_seq ?_
  refine vc_region ?_
  refine vp ?_
  refine vp ?_
  refine vc_nil ?_
  refine vc_then ?_
  first | refine vc_condP rfl (fun c16 => ?_) (fun c16 => ?_) | refine vc_condN rfl (fun c16 => ?_) (fun c16 => ?_) | refine vc_cond rfl (fun c16 => ?_) (fun c16 => ?_)
  ·skip
   refine vc_region ?_
   refine vc_ent (l' := Sl eInt nilS [] :: _) sl_new ?_
   refine vp ?_
   refine vp ?_
   refine vc_y (y_cap Tryz.underlying72 (h := nilS) rfl) rfl ?_
   refine vc_y (y_slice sl_72 (h := nilS) rfl 0 0 0 rfl ⟨_, _, rfl, rfl⟩ rfl (by simp) (by omega) (by omega) (by exact Nat.le_refl _)) rfl ?_
   refine vp ?_
   refine vc_appendZ 0 rfl (E := eInt) (h := nilS.cut (Enc.sz eInt) 0 0 0) (xs := []) (Sl.vis.imp fun w r => by have := r.cut (lo := 0) (hi := 0) (mx := 0) (Nat.le_refl _) (Nat.le_refl _) (Nat.le_refl _) (Nat.zero_le _); simpa using this) (0 : Int) el_72_eInt Tryz.underlying3 ze_3 rfl rfl m rfl (by omega) (by simp [SH.cut]; omega) (by simp; omega) (by simp; omega) rfl (fun h22 hh22 => ?_)
   refine vp ?_
   refine vc_y (y_len Tryz.underlying72 (h := nilS) rfl rfl) rfl ?_
   refine vc_y (y_slice sl_72 (h := h22) rfl 0 0 h22.cap rfl ⟨_, _, rfl, rfl⟩ rfl (by simp) (by omega) (by omega) (by omega)) rfl ?_
   refine vc_turn 0 rfl (Sl eInt (h22.cut (Enc.sz eInt) 0 0 h22.cap) []) (VS.of_ent (by have := Sl.cut (E := eInt) (h := h22) (xs := [] ++ List.replicate m (0 : Int)) (lo := 0) (hi := 0) (mx := h22.cap) (Nat.le_refl _) (Nat.zero_le _) (Nat.zero_le _) (Nat.le_refl _); simpa using this)) ?_
   refine vp ?_
   refine vc_nil ?_
   refine vc_then ?_
   refine vc_seq ?_
   refine vc_region ?_
   refine vp ?_
   refine vp ?_
   refine vc_nil ?_
   refine vc_then ?_
   refine vc_ret ?_
   exact vc_end1 Tryz.results237 rfl _ (ent_pick [0] rfl) ⟨_, rfl, rfl⟩
  ·skip
   refine vc_skip ?_
   refine vc_then ?_
   refine vc_seq ?_
   refine vc_region ?_
   refine vp ?_
   refine vp ?_
   refine vc_nil ?_
   refine vc_then ?_
   refine vc_ret ?_
   exact vc_end1 Tryz.results237 rfl _ (sl_new) ⟨nilS, rfl, rfl⟩
theorem growN_spec {m : Nat} (hb : m ≤ 4000000) :
  Does Tryz.prog 237 [nilS.v, .int .i64 (m : Int)] [] (fun v l => ∃ h', v = h'.v ∧ l = [Sl eNat h' []]) := by
 refine spec_of Tryz.func237 rfl Tryz.ntmps237 Tryz.results237 _ (by simp) fun ι F => ?_
 refine vc_seq ?_
 refine vc_region ?_
 refine vp ?_
 refine vc_nil ?_
 refine vc_then ?_
 refine vc_seq ?_
 refine vc_seq ?_
 refine vc_region ?_
 refine vp ?_
 refine vp ?_
 refine vc_nil ?_
 refine vc_then ?_
 first | refine vc_condP rfl (fun c6 => ?_) (fun c6 => ?_) | refine vc_condN rfl (fun c6 => ?_) (fun c6 => ?_) | refine vc_cond rfl (fun c6 => ?_) (fun c6 => ?_)
 ·skip
  exact absurd c6 (by omega)
 ·skip
  refine vc_skip ?_
  refine vc_then ?_
  refine vc_seq ?_
  refine vc_seq ?_
  refine vc_region ?_
  refine vp ?_
  refine vp ?_
  refine vc_y (y_cap Tryz.underlying72 (h := nilS) rfl) rfl ?_
  refine vp ?_
  refine vc_y (y_len Tryz.underlying72 (h := nilS) rfl rfl) rfl ?_
  refine vc_y (y_arith (0 : Int) rfl (by decide)) rfl ?_
  refine vc_y (y_arith (m : Int) rfl (by rw [Int.sub_zero]; exact wrap64 (by omega) (by omega))) rfl ?_
  refine vp ?_
  refine vc_nil ?_
  refine vc_then ?_
  refine vc_seq ?_
  refine vc_region ?_
  refine vp ?_
  refine vp ?_
  refine vc_nil ?_
  refine vc_then ?_
  first | refine vc_condP rfl (fun c16 => ?_) (fun c16 => ?_) | refine vc_condN rfl (fun c16 => ?_) (fun c16 => ?_) | refine vc_cond rfl (fun c16 => ?_) (fun c16 => ?_)
  ·skip
   refine vc_region ?_
   refine vc_ent (l' := Sl eNat nilS [] :: _) sl_new ?_
   refine vp ?_
   refine vp ?_
   refine vc_y (y_cap Tryz.underlying72 (h := nilS) rfl) rfl ?_
   refine vc_y (y_slice sl_72 (h := nilS) rfl 0 0 0 rfl ⟨_, _, rfl, rfl⟩ rfl (by simp) (by omega) (by omega) (by exact Nat.le_refl _)) rfl ?_
   refine vp ?_
   refine vc_appendZ 0 rfl (E := eNat) (h := nilS.cut (Enc.sz eNat) 0 0 0) (xs := []) (Sl.vis.imp fun w r => by have := r.cut (lo := 0) (hi := 0) (mx := 0) (Nat.le_refl _) (Nat.le_refl _) (Nat.le_refl _) (Nat.zero_le _); simpa using this) (0 : Nat) el_72_eNat Tryz.underlying3 ze_3 rfl rfl m rfl (by omega) (by simp [SH.cut]; omega) (by simp; omega) (by simp; omega) rfl (fun h22 hh22 => ?_)
   refine vp ?_
   refine vc_y (y_len Tryz.underlying72 (h := nilS) rfl rfl) rfl ?_
   refine vc_y (y_slice sl_72 (h := h22) rfl 0 0 h22.cap rfl ⟨_, _, rfl, rfl⟩ rfl (by simp) (by omega) (by omega) (by omega)) rfl ?_
   refine vc_turn 0 rfl (Sl eNat (h22.cut (Enc.sz eNat) 0 0 h22.cap) []) (VS.of_ent (by have := Sl.cut (E := eNat) (h := h22) (xs := [] ++ List.replicate m (0 : Nat)) (lo := 0) (hi := 0) (mx := h22.cap) (Nat.le_refl _) (Nat.zero_le _) (Nat.zero_le _) (Nat.le_refl _); simpa using this)) ?_
   refine vp ?_
   refine vc_nil ?_
   refine vc_then ?_
   refine vc_seq ?_
   refine vc_region ?_
   refine vp ?_
   refine vp ?_
   refine vc_nil ?_
   refine vc_then ?_
   refine vc_ret ?_
   exact vc_end1 Tryz.results237 rfl _ (ent_pick [0] rfl) ⟨_, rfl, rfl⟩
  ·skip
   refine vc_skip ?_
   refine vc_then ?_
   refine vc_seq ?_
   refine vc_region ?_
   refine vp ?_
   refine vp ?_
   refine vc_nil ?_
   refine vc_then ?_
   refine vc_ret ?_
   exact vc_end1 Tryz.results237 rfl _ (sl_new) ⟨nilS, rfl, rfl⟩
theorem catS_spec {B : HP} {hh : SH} {L : List (SH × List ByteArray)} (hB : ∀ p ∈ L, Vis B (Rd eStr p.1 p.2)) (hb : (L.flatMap (·.2)).length ≤ 1000000) (hb2 : L.length ≤ 1000000) :
  Does Tryz.prog 221 [hh.v] [Sl (eSl 136) hh (L.map (·.1)), B] (fun v l => ∃ h', v = h'.v ∧ l = [Sl eStr h' (L.flatMap (·.2)), Sl (eSl 136) hh (L.map (·.1)), B]) := by
 refine spec_of Tryz.func221 rfl Tryz.ntmps221 Tryz.results221 _ (by simp) fun ι F => ?_
 refine vc_see 0 rfl (Sl.vis.imp fun w r => r.len) (fun hlen => ?_)
 rw [List.length_map] at hlen
 have hcl := fun i => cat_le (L := L) i
 refine vc_seq ?_
 refine vc_region ?_
 refine vp ?_
 refine vc_nil ?_
 refine vc_then ?_
 refine vc_seq ?_
 refine vc_region ?_
 refine vp ?_
 refine vc_nil ?_
 refine vc_then ?_
 refine vc_seq ?_
 refine vc_seq ?_
 refine vc_region ?_
 refine vp ?_
 refine vc_y (y_len Tryz.underlying295 rfl hlen) rfl ?_
 refine vp ?_
 refine vc_nil ?_
 refine vc_then ?_
 refine vc_block ?_
 refine vc_loop (α := Nat) (fun x => match x with | i => [(0, hh.v), (3, .int .i64 ((catN L i).length : Int)), (9, hh.v), (10, .int .i64 (L.length : Int)), (11, .int .i64 (i : Int))]) (fun x => match x with | i => [Sl (eSl 136) hh (L.map (·.1)), B]) (fun x => match x with | i => L.length - i) (fun x => match x with | i => i ≤ L.length) 0 (Nat.zero_le _) ⟨rfl, rfl, rfl, rfl, rfl, trivial⟩ (ent_pick [0, 0] rfl) ?_
 rintro i hi
 show VC _ _ _ _ [(0, hh.v), (3, .int .i64 ((catN L i).length : Int)), (9, hh.v), (10, .int .i64 (L.length : Int)), (11, .int .i64 (i : Int))] ([Sl (eSl 136) hh (L.map (·.1)), B])
 have hcli := hcl i
 refine vc_seq ?_
 refine vc_region ?_
 refine vp ?_
 refine vc_nil ?_
 refine vc_then ?_
 refine vc_seq ?_
 first | refine vc_condP rfl (fun c12 => ?_) (fun c12 => ?_) | refine vc_condN rfl (fun c12 => ?_) (fun c12 => ?_) | refine vc_cond rfl (fun c12 => ?_) (fun c12 => ?_)
 ·skip
  obtain ⟨p, hp⟩ : ∃ p, L[i]? = some p := ⟨_, List.getElem?_eq_getElem (by omega)⟩
  have hpv := hB p (List.mem_of_getElem? hp)
  refine vc_see 1 rfl (hpv.imp fun w r => r.len) (fun hpl => ?_)
  have hcs := cat_succ hp
  have hcl2 := hcl (i + 1)
  rw [hcs, List.length_append] at hcl2
  refine vc_skip ?_
  refine vc_then ?_
  refine vc_seq ?_
  refine vc_block ?_
  refine vc_seq ?_
  refine vc_region ?_
  refine vc_y (y_elem 0 rfl (Sl.vis) i rfl (by rw [List.length_map]; omega) sl_295 rfl rfl) rfl ?_
  refine vc_y (y_load1 0 rfl one_136 rfl (Rd.vis1 (Sl.vis) (by rw [List.getElem?_map, hp]; rfl) rfl)) rfl ?_
  refine vp ?_
  refine vc_nil ?_
  refine vc_then ?_
  refine vc_seq ?_
  refine vc_region ?_
  refine vp ?_
  refine vp ?_
  refine vc_y (y_len Tryz.underlying136 rfl hpl) rfl ?_
  refine vc_y (y_arith ((catN L (i + 1)).length : Int) rfl (by rw [hcs, List.length_append, Int.natCast_add]; exact wrap64 (by omega) (by omega))) rfl ?_
  refine vp ?_
  refine vc_nil ?_
  refine vc_then ?_
  refine vc_seq ?_
  refine vc_region ?_
  refine vp ?_
  refine vp ?_
  refine vc_nil ?_
  refine vc_then ?_
  first | refine vc_condP rfl (fun c20 => ?_) (fun c20 => ?_) | refine vc_condN rfl (fun c20 => ?_) (fun c20 => ?_) | refine vc_cond rfl (fun c20 => ?_) (fun c20 => ?_)
  ·skip
   exact absurd c20 (by omega)
  ·skip
   refine vc_skip ?_
   refine vc_inNormal ?_
   refine vc_then ?_
   refine vc_region ?_
   first | refine vc_y (y_arith _ rfl (wrapNadd (by omega))) rfl ?_ | refine vc_y (y_arith _ rfl (wrap64 (by omega) (by omega))) rfl ?_ | refine vp ?_
   refine vp ?_
   refine vc_nil ?_
   refine vc_then ?_
   exact vc_again (x := i) (i + 1) (by omega) (by show L.length - (i + 1) < L.length - i; omega) ⟨rfl, rfl, rfl, rfl, rfl, trivial⟩ (ent_pick [0, 0] rfl)
 ·skip
  obtain rfl : i = L.length := by omega
  refine vc_exit ?_
  refine vc_thenExit ?_
  refine vc_thenExit ?_
  refine vc_inExit ?_
  refine vc_then ?_
  refine vc_seq ?_
  refine vc_region ?_
  refine vp ?_
  refine vc_callv ca_236 (us := []) (vs := []) rfl [_, _] rfl [] rfl (growS_spec (by omega)) rfl ?_
  rintro _ _ ⟨g0, rfl, rfl⟩
  refine vp ?_
  refine vc_nil ?_
  refine vc_then ?_
  refine vc_seq ?_
  refine vc_seq ?_
  refine vc_region ?_
  refine vp ?_
  refine vc_y (y_len Tryz.underlying295 rfl hlen) rfl ?_
  refine vp ?_
  refine vc_nil ?_
  refine vc_then ?_
  refine vc_block ?_
  refine vc_loop (α := Nat × SH) (fun x => match x with | (i, g) => [(6, g.v), (25, hh.v), (26, .int .i64 (L.length : Int)), (27, .int .i64 (i : Int))]) (fun x => match x with | (i, g) => [Sl eStr g (catN L i), Sl (eSl 136) hh (L.map (·.1)), B]) (fun x => match x with | (i, g) => L.length - i) (fun x => match x with | (i, g) => i ≤ L.length) (0, g0) (Nat.zero_le _) ⟨rfl, rfl, rfl, rfl, trivial⟩ (ent_pick [0, 0, 0] rfl) ?_
  rintro ⟨i, g⟩ hi
  show VC _ _ _ _ [(6, g.v), (25, hh.v), (26, .int .i64 (L.length : Int)), (27, .int .i64 (i : Int))] ([Sl eStr g (catN L i), Sl (eSl 136) hh (L.map (·.1)), B])
  have hcli := hcl i
  refine vc_seq ?_
  refine vc_region ?_
  refine vp ?_
  refine vc_nil ?_
  refine vc_then ?_
  refine vc_seq ?_
  first | refine vc_condP rfl (fun c28 => ?_) (fun c28 => ?_) | refine vc_condN rfl (fun c28 => ?_) (fun c28 => ?_) | refine vc_cond rfl (fun c28 => ?_) (fun c28 => ?_)
  ·skip
   obtain ⟨p, hp⟩ : ∃ p, L[i]? = some p := ⟨_, List.getElem?_eq_getElem (by omega)⟩
   have hpv := hB p (List.mem_of_getElem? hp)
   have hcs := cat_succ hp
   have hcl2 := hcl (i + 1)
   rw [hcs, List.length_append] at hcl2
   refine vc_skip ?_
   refine vc_then ?_
   refine vc_seq ?_
   refine vc_block ?_
   refine vc_seq ?_
   refine vc_region ?_
   refine vc_y (y_elem 1 rfl (Sl.vis) i rfl (by rw [List.length_map]; omega) sl_295 rfl rfl) rfl ?_
   refine vc_y (y_load1 1 rfl one_136 rfl (Rd.vis1 (Sl.vis) (by rw [List.getElem?_map, hp]; rfl) rfl)) rfl ?_
   refine vp ?_
   refine vc_nil ?_
   refine vc_then ?_
   refine vc_region ?_
   refine vp ?_
   refine vp ?_
   refine vc_append 0 rfl 2 rfl hpv el_136_eStr Tryz.underlying136 rfl rfl (by omega) (by omega) rfl (fun h33 => ?_)
   refine vc_re 0 rfl (congrArg (Sl eStr h33) hcs.symm) ?_
   refine vp ?_
   refine vc_nil ?_
   refine vc_inNormal ?_
   refine vc_then ?_
   refine vc_region ?_
   first | refine vc_y (y_arith _ rfl (wrapNadd (by omega))) rfl ?_ | refine vc_y (y_arith _ rfl (wrap64 (by omega) (by omega))) rfl ?_ | refine vp ?_
   refine vp ?_
   refine vc_nil ?_
   refine vc_then ?_
   exact vc_again (x := (i, g)) (i + 1, h33) (by show i + 1 ≤ L.length; omega) (by show L.length - (i + 1) < L.length - i; omega) ⟨rfl, rfl, rfl, rfl, trivial⟩ (ent_pick [0, 0, 0] rfl)
  ·skip
   obtain rfl : i = L.length := by omega
   rw [cat_all]
   refine vc_exit ?_
   refine vc_thenExit ?_
   refine vc_thenExit ?_
   refine vc_inExit ?_
   refine vc_then ?_
   refine vc_seq ?_
   refine vc_region ?_
   refine vp ?_
   refine vp ?_
   refine vc_nil ?_
   refine vc_then ?_
   refine vc_ret ?_
   exact vc_end1 Tryz.results221 rfl _ (ent_pick [0, 0, 0] rfl) ⟨g, rfl, rfl⟩
theorem catI_spec {B : HP} {hh : SH} {L : List (SH × List Int)} (hB : ∀ p ∈ L, Vis B (Rd eInt p.1 p.2)) (hb : (L.flatMap (·.2)).length ≤ 1000000) (hb2 : L.length ≤ 1000000) :
  Does Tryz.prog 222 [hh.v] [Sl (eSl 72) hh (L.map (·.1)), B] (fun v l => ∃ h', v = h'.v ∧ l = [Sl eInt h' (L.flatMap (·.2)), Sl (eSl 72) hh (L.map (·.1)), B]) := by
 refine spec_of Tryz.func222 rfl Tryz.ntmps222 Tryz.results222 _ (by simp) fun ι F => ?_
 refine vc_see 0 rfl (Sl.vis.imp fun w r => r.len) (fun hlen => ?_)
 rw [List.length_map] at hlen
 have hcl := fun i => cat_le (L := L) i
 refine vc_seq ?_
 refine vc_region ?_
 refine vp ?_
 refine vc_nil ?_
 refine vc_then ?_
 refine vc_seq ?_
 refine vc_region ?_
 refine vp ?_
 refine vc_nil ?_
 refine vc_then ?_
 refine vc_seq ?_
 refine vc_seq ?_
 refine vc_region ?_
 refine vp ?_
 refine vc_y (y_len Tryz.underlying297 rfl hlen) rfl ?_
 refine vp ?_
 refine vc_nil ?_
 refine vc_then ?_
 refine vc_block ?_
 refine vc_loop (α := Nat) (fun x => match x with | i => [(0, hh.v), (3, .int .i64 ((catN L i).length : Int)), (9, hh.v), (10, .int .i64 (L.length : Int)), (11, .int .i64 (i : Int))]) (fun x => match x with | i => [Sl (eSl 72) hh (L.map (·.1)), B]) (fun x => match x with | i => L.length - i) (fun x => match x with | i => i ≤ L.length) 0 (Nat.zero_le _) ⟨rfl, rfl, rfl, rfl, rfl, trivial⟩ (ent_pick [0, 0] rfl) ?_
 rintro i hi
 show VC _ _ _ _ [(0, hh.v), (3, .int .i64 ((catN L i).length : Int)), (9, hh.v), (10, .int .i64 (L.length : Int)), (11, .int .i64 (i : Int))] ([Sl (eSl 72) hh (L.map (·.1)), B])
 have hcli := hcl i
 refine vc_seq ?_
 refine vc_region ?_
 refine vp ?_
 refine vc_nil ?_
 refine vc_then ?_
 refine vc_seq ?_
 first | refine vc_condP rfl (fun c12 => ?_) (fun c12 => ?_) | refine vc_condN rfl (fun c12 => ?_) (fun c12 => ?_) | refine vc_cond rfl (fun c12 => ?_) (fun c12 => ?_)
 ·skip
  obtain ⟨p, hp⟩ : ∃ p, L[i]? = some p := ⟨_, List.getElem?_eq_getElem (by omega)⟩
  have hpv := hB p (List.mem_of_getElem? hp)
  refine vc_see 1 rfl (hpv.imp fun w r => r.len) (fun hpl => ?_)
  have hcs := cat_succ hp
  have hcl2 := hcl (i + 1)
  rw [hcs, List.length_append] at hcl2
  refine vc_skip ?_
  refine vc_then ?_
  refine vc_seq ?_
  refine vc_block ?_
  refine vc_seq ?_
  refine vc_region ?_
  refine vc_y (y_elem 0 rfl (Sl.vis) i rfl (by rw [List.length_map]; omega) sl_297 rfl rfl) rfl ?_
  refine vc_y (y_load1 0 rfl one_72 rfl (Rd.vis1 (Sl.vis) (by rw [List.getElem?_map, hp]; rfl) rfl)) rfl ?_
  refine vp ?_
  refine vc_nil ?_
  refine vc_then ?_
  refine vc_seq ?_
  refine vc_region ?_
  refine vp ?_
  refine vp ?_
  refine vc_y (y_len Tryz.underlying72 rfl hpl) rfl ?_
  refine vc_y (y_arith ((catN L (i + 1)).length : Int) rfl (by rw [hcs, List.length_append, Int.natCast_add]; exact wrap64 (by omega) (by omega))) rfl ?_
  refine vp ?_
  refine vc_nil ?_
  refine vc_then ?_
  refine vc_seq ?_
  refine vc_region ?_
  refine vp ?_
  refine vp ?_
  refine vc_nil ?_
  refine vc_then ?_
  first | refine vc_condP rfl (fun c20 => ?_) (fun c20 => ?_) | refine vc_condN rfl (fun c20 => ?_) (fun c20 => ?_) | refine vc_cond rfl (fun c20 => ?_) (fun c20 => ?_)
  ·skip
   exact absurd c20 (by omega)
  ·skip
   refine vc_skip ?_
   refine vc_inNormal ?_
   refine vc_then ?_
   refine vc_region ?_
   first | refine vc_y (y_arith _ rfl (wrapNadd (by omega))) rfl ?_ | refine vc_y (y_arith _ rfl (wrap64 (by omega) (by omega))) rfl ?_ | refine vp ?_
   refine vp ?_
   refine vc_nil ?_
   refine vc_then ?_
   exact vc_again (x := i) (i + 1) (by omega) (by show L.length - (i + 1) < L.length - i; omega) ⟨rfl, rfl, rfl, rfl, rfl, trivial⟩ (ent_pick [0, 0] rfl)
 ·skip
  obtain rfl : i = L.length := by omega
  refine vc_exit ?_
  refine vc_thenExit ?_
  refine vc_thenExit ?_
  refine vc_inExit ?_
  refine vc_then ?_
  refine vc_seq ?_
  refine vc_region ?_
  refine vp ?_
  refine vc_callv ca_237 (us := []) (vs := []) rfl [_, _] rfl [] rfl (growI_spec (by omega)) rfl ?_
  rintro _ _ ⟨g0, rfl, rfl⟩
  refine vp ?_
  refine vc_nil ?_
  refine vc_then ?_
  refine vc_seq ?_
  refine vc_seq ?_
  refine vc_region ?_
  refine vp ?_
  refine vc_y (y_len Tryz.underlying297 rfl hlen) rfl ?_
  refine vp ?_
  refine vc_nil ?_
  refine vc_then ?_
  refine vc_block ?_
  refine vc_loop (α := Nat × SH) (fun x => match x with | (i, g) => [(6, g.v), (25, hh.v), (26, .int .i64 (L.length : Int)), (27, .int .i64 (i : Int))]) (fun x => match x with | (i, g) => [Sl eInt g (catN L i), Sl (eSl 72) hh (L.map (·.1)), B]) (fun x => match x with | (i, g) => L.length - i) (fun x => match x with | (i, g) => i ≤ L.length) (0, g0) (Nat.zero_le _) ⟨rfl, rfl, rfl, rfl, trivial⟩ (ent_pick [0, 0, 0] rfl) ?_
  rintro ⟨i, g⟩ hi
  show VC _ _ _ _ [(6, g.v), (25, hh.v), (26, .int .i64 (L.length : Int)), (27, .int .i64 (i : Int))] ([Sl eInt g (catN L i), Sl (eSl 72) hh (L.map (·.1)), B])
  have hcli := hcl i
  refine vc_seq ?_
  refine vc_region ?_
  refine vp ?_
  refine vc_nil ?_
  refine vc_then ?_
  refine vc_seq ?_
  first | refine vc_condP rfl (fun c28 => ?_) (fun c28 => ?_) | refine vc_condN rfl (fun c28 => ?_) (fun c28 => ?_) | refine vc_cond rfl (fun c28 => ?_) (fun c28 => ?_)
  ·skip
   obtain ⟨p, hp⟩ : ∃ p, L[i]? = some p := ⟨_, List.getElem?_eq_getElem (by omega)⟩
   have hpv := hB p (List.mem_of_getElem? hp)
   have hcs := cat_succ hp
   have hcl2 := hcl (i + 1)
   rw [hcs, List.length_append] at hcl2
   refine vc_skip ?_
   refine vc_then ?_
   refine vc_seq ?_
   refine vc_block ?_
   refine vc_seq ?_
   refine vc_region ?_
   refine vc_y (y_elem 1 rfl (Sl.vis) i rfl (by rw [List.length_map]; omega) sl_297 rfl rfl) rfl ?_
   refine vc_y (y_load1 1 rfl one_72 rfl (Rd.vis1 (Sl.vis) (by rw [List.getElem?_map, hp]; rfl) rfl)) rfl ?_
   refine vp ?_
   refine vc_nil ?_
   refine vc_then ?_
   refine vc_region ?_
   refine vp ?_
   refine vp ?_
   refine vc_append 0 rfl 2 rfl hpv el_72_eInt Tryz.underlying72 rfl rfl (by omega) (by omega) rfl (fun h33 => ?_)
   refine vc_re 0 rfl (congrArg (Sl eInt h33) hcs.symm) ?_
   refine vp ?_
   refine vc_nil ?_
   refine vc_inNormal ?_
   refine vc_then ?_
   refine vc_region ?_
   first | refine vc_y (y_arith _ rfl (wrapNadd (by omega))) rfl ?_ | refine vc_y (y_arith _ rfl (wrap64 (by omega) (by omega))) rfl ?_ | refine vp ?_
   refine vp ?_
   refine vc_nil ?_
   refine vc_then ?_
   exact vc_again (x := (i, g)) (i + 1, h33) (by show i + 1 ≤ L.length; omega) (by show L.length - (i + 1) < L.length - i; omega) ⟨rfl, rfl, rfl, rfl, trivial⟩ (ent_pick [0, 0, 0] rfl)
  ·skip
   obtain rfl : i = L.length := by omega
   rw [cat_all]
   refine vc_exit ?_
   refine vc_thenExit ?_
   refine vc_thenExit ?_
   refine vc_inExit ?_
   refine vc_then ?_
   refine vc_seq ?_
   refine vc_region ?_
   refine vp ?_
   refine vp ?_
   refine vc_nil ?_
   refine vc_then ?_
   refine vc_ret ?_
   exact vc_end1 Tryz.results222 rfl _ (ent_pick [0, 0, 0] rfl) ⟨g, rfl, rfl⟩
theorem catN_spec {B : HP} {hh : SH} {L : List (SH × List Nat)} (hB : ∀ p ∈ L, Vis B (Rd eNat p.1 p.2)) (hb : (L.flatMap (·.2)).length ≤ 1000000) (hb2 : L.length ≤ 1000000) :
  Does Tryz.prog 222 [hh.v] [Sl (eSl 72) hh (L.map (·.1)), B] (fun v l => ∃ h', v = h'.v ∧ l = [Sl eNat h' (L.flatMap (·.2)), Sl (eSl 72) hh (L.map (·.1)), B]) := by
 refine spec_of Tryz.func222 rfl Tryz.ntmps222 Tryz.results222 _ (by simp) fun ι F => ?_
 refine vc_see 0 rfl (Sl.vis.imp fun w r => r.len) (fun hlen => ?_)
 rw [List.length_map] at hlen
 have hcl := fun i => cat_le (L := L) i
 refine vc_seq ?_
 refine vc_region ?_
 refine vp ?_
 refine vc_nil ?_
 refine vc_then ?_
 refine vc_seq ?_
 refine vc_region ?_
 refine vp ?_
 refine vc_nil ?_
 refine vc_then ?_
 refine vc_seq ?_
 refine vc_seq ?_
 refine vc_region ?_
 refine vp ?_
 refine vc_y (y_len Tryz.underlying297 rfl hlen) rfl ?_
 refine vp ?_
 refine vc_nil ?_
 refine vc_then ?_
 refine vc_block ?_
 refine vc_loop (α := Nat) (fun x => match x with | i => [(0, hh.v), (3, .int .i64 ((catN L i).length : Int)), (9, hh.v), (10, .int .i64 (L.length : Int)), (11, .int .i64 (i : Int))]) (fun x => match x with | i => [Sl (eSl 72) hh (L.map (·.1)), B]) (fun x => match x with | i => L.length - i) (fun x => match x with | i => i ≤ L.length) 0 (Nat.zero_le _) ⟨rfl, rfl, rfl, rfl, rfl, trivial⟩ (ent_pick [0, 0] rfl) ?_
 rintro i hi
 show VC _ _ _ _ [(0, hh.v), (3, .int .i64 ((catN L i).length : Int)), (9, hh.v), (10, .int .i64 (L.length : Int)), (11, .int .i64 (i : Int))] ([Sl (eSl 72) hh (L.map (·.1)), B])
 have hcli := hcl i
 refine vc_seq ?_
 refine vc_region ?_
 refine vp ?_
 refine vc_nil ?_
 refine vc_then ?_
 refine vc_seq ?_
 first | refine vc_condP rfl (fun c12 => ?_) (fun c12 => ?_) | refine vc_condN rfl (fun c12 => ?_) (fun c12 => ?_) | refine vc_cond rfl (fun c12 => ?_) (fun c12 => ?_)
 ·skip
  obtain ⟨p, hp⟩ : ∃ p, L[i]? = some p := ⟨_, List.getElem?_eq_getElem (by omega)⟩
  have hpv := hB p (List.mem_of_getElem? hp)
  refine vc_see 1 rfl (hpv.imp fun w r => r.len) (fun hpl => ?_)
  have hcs := cat_succ hp
  have hcl2 := hcl (i + 1)
  rw [hcs, List.length_append] at hcl2
  refine vc_skip ?_
  refine vc_then ?_
  refine vc_seq ?_
  refine vc_block ?_
  refine vc_seq ?_
  refine vc_region ?_
  refine vc_y (y_elem 0 rfl (Sl.vis) i rfl (by rw [List.length_map]; omega) sl_297 rfl rfl) rfl ?_
  refine vc_y (y_load1 0 rfl one_72 rfl (Rd.vis1 (Sl.vis) (by rw [List.getElem?_map, hp]; rfl) rfl)) rfl ?_
  refine vp ?_
  refine vc_nil ?_
  refine vc_then ?_
  refine vc_seq ?_
  refine vc_region ?_
  refine vp ?_
  refine vp ?_
  refine vc_y (y_len Tryz.underlying72 rfl hpl) rfl ?_
  refine vc_y (y_arith ((catN L (i + 1)).length : Int) rfl (by rw [hcs, List.length_append, Int.natCast_add]; exact wrap64 (by omega) (by omega))) rfl ?_
  refine vp ?_
  refine vc_nil ?_
  refine vc_then ?_
  refine vc_seq ?_
  refine vc_region ?_
  refine vp ?_
  refine vp ?_
  refine vc_nil ?_
  refine vc_then ?_
  first | refine vc_condP rfl (fun c20 => ?_) (fun c20 => ?_) | refine vc_condN rfl (fun c20 => ?_) (fun c20 => ?_) | refine vc_cond rfl (fun c20 => ?_) (fun c20 => ?_)
  ·skip
   exact absurd c20 (by omega)
  ·skip
   refine vc_skip ?_
   refine vc_inNormal ?_
   refine vc_then ?_
   refine vc_region ?_
   first | refine vc_y (y_arith _ rfl (wrapNadd (by omega))) rfl ?_ | refine vc_y (y_arith _ rfl (wrap64 (by omega) (by omega))) rfl ?_ | refine vp ?_
   refine vp ?_
   refine vc_nil ?_
   refine vc_then ?_
   exact vc_again (x := i) (i + 1) (by omega) (by show L.length - (i + 1) < L.length - i; omega) ⟨rfl, rfl, rfl, rfl, rfl, trivial⟩ (ent_pick [0, 0] rfl)
 ·skip
  obtain rfl : i = L.length := by omega
  refine vc_exit ?_
  refine vc_thenExit ?_
  refine vc_thenExit ?_
  refine vc_inExit ?_
  refine vc_then ?_
  refine vc_seq ?_
  refine vc_region ?_
  refine vp ?_
  refine vc_callv ca_237 (us := []) (vs := []) rfl [_, _] rfl [] rfl (growN_spec (by omega)) rfl ?_
  rintro _ _ ⟨g0, rfl, rfl⟩
  refine vp ?_
  refine vc_nil ?_
  refine vc_then ?_
  refine vc_seq ?_
  refine vc_seq ?_
  refine vc_region ?_
  refine vp ?_
  refine vc_y (y_len Tryz.underlying297 rfl hlen) rfl ?_
  refine vp ?_
  refine vc_nil ?_
  refine vc_then ?_
  refine vc_block ?_
  refine vc_loop (α := Nat × SH) (fun x => match x with | (i, g) => [(6, g.v), (25, hh.v), (26, .int .i64 (L.length : Int)), (27, .int .i64 (i : Int))]) (fun x => match x with | (i, g) => [Sl eNat g (catN L i), Sl (eSl 72) hh (L.map (·.1)), B]) (fun x => match x with | (i, g) => L.length - i) (fun x => match x with | (i, g) => i ≤ L.length) (0, g0) (Nat.zero_le _) ⟨rfl, rfl, rfl, rfl, trivial⟩ (ent_pick [0, 0, 0] rfl) ?_
  rintro ⟨i, g⟩ hi
  show VC _ _ _ _ [(6, g.v), (25, hh.v), (26, .int .i64 (L.length : Int)), (27, .int .i64 (i : Int))] ([Sl eNat g (catN L i), Sl (eSl 72) hh (L.map (·.1)), B])
  have hcli := hcl i
  refine vc_seq ?_
  refine vc_region ?_
  refine vp ?_
  refine vc_nil ?_
  refine vc_then ?_
  refine vc_seq ?_
  first | refine vc_condP rfl (fun c28 => ?_) (fun c28 => ?_) | refine vc_condN rfl (fun c28 => ?_) (fun c28 => ?_) | refine vc_cond rfl (fun c28 => ?_) (fun c28 => ?_)
  ·skip
   obtain ⟨p, hp⟩ : ∃ p, L[i]? = some p := ⟨_, List.getElem?_eq_getElem (by omega)⟩
   have hpv := hB p (List.mem_of_getElem? hp)
   have hcs := cat_succ hp
   have hcl2 := hcl (i + 1)
   rw [hcs, List.length_append] at hcl2
   refine vc_skip ?_
   refine vc_then ?_
   refine vc_seq ?_
   refine vc_block ?_
   refine vc_seq ?_
   refine vc_region ?_
   refine vc_y (y_elem 1 rfl (Sl.vis) i rfl (by rw [List.length_map]; omega) sl_297 rfl rfl) rfl ?_
   refine vc_y (y_load1 1 rfl one_72 rfl (Rd.vis1 (Sl.vis) (by rw [List.getElem?_map, hp]; rfl) rfl)) rfl ?_
   refine vp ?_
   refine vc_nil ?_
   refine vc_then ?_
   refine vc_region ?_
   refine vp ?_
   refine vp ?_
   refine vc_append 0 rfl 2 rfl hpv el_72_eNat Tryz.underlying72 rfl rfl (by omega) (by omega) rfl (fun h33 => ?_)
   refine vc_re 0 rfl (congrArg (Sl eNat h33) hcs.symm) ?_
   refine vp ?_
   refine vc_nil ?_
   refine vc_inNormal ?_
   refine vc_then ?_
   refine vc_region ?_
   first | refine vc_y (y_arith _ rfl (wrapNadd (by omega))) rfl ?_ | refine vc_y (y_arith _ rfl (wrap64 (by omega) (by omega))) rfl ?_ | refine vp ?_
   refine vp ?_
   refine vc_nil ?_
   refine vc_then ?_
   exact vc_again (x := (i, g)) (i + 1, h33) (by show i + 1 ≤ L.length; omega) (by show L.length - (i + 1) < L.length - i; omega) ⟨rfl, rfl, rfl, rfl, trivial⟩ (ent_pick [0, 0, 0] rfl)
  ·skip
   obtain rfl : i = L.length := by omega
   rw [cat_all]
   refine vc_exit ?_
   refine vc_thenExit ?_
   refine vc_thenExit ?_
   refine vc_inExit ?_
   refine vc_then ?_
   refine vc_seq ?_
   refine vc_region ?_
   refine vp ?_
   refine vp ?_
   refine vc_nil ?_
   refine vc_then ?_
   refine vc_ret ?_
   exact vc_end1 Tryz.results222 rfl _ (ent_pick [0, 0, 0] rfl) ⟨g, rfl, rfl⟩
end Go.Proofs.YtcpbibdbahfgaaaGreat
namespace Go.Proofs.YtcpbibdbahfgaaaGreat
open Go.Eng
namespace FTree1
theorem fl_231_2 : Fld Tryz.prog 231 2 2 := ⟨_, _, 0, Tryz.underlying231, rfl, rfl, by kernel_rfl⟩
theorem one_72 : TyOne Tryz.prog 72 := ⟨⟨_, Tryz.underlying72, rfl⟩, by kernel_rfl⟩
theorem ca_163 : Callable Tryz.prog 163 := ⟨_, _, Tryz.func163, rfl, rfl⟩
theorem fl_231_0 : Fld Tryz.prog 231 0 0 := ⟨_, _, 0, Tryz.underlying231, rfl, rfl, by kernel_rfl⟩
theorem one_136 : TyOne Tryz.prog 136 := ⟨⟨_, Tryz.underlying136, rfl⟩, by kernel_rfl⟩
theorem ca_168 : Callable Tryz.prog 168 := ⟨_, _, Tryz.func168, rfl, rfl⟩
theorem ep_129 : Tryz.prog.underlying 129 = some (.pointer (Tryz.prog.pointee 129)) := by kernel_rfl
theorem fl_204_2 : Fld Tryz.prog 204 2 2 := ⟨_, _, 0, Tryz.underlying204, rfl, rfl, by kernel_rfl⟩
theorem one_3 : TyOne Tryz.prog 3 := ⟨⟨_, Tryz.underlying3, rfl⟩, by kernel_rfl⟩
theorem fl_204_0 : Fld Tryz.prog 204 0 0 := ⟨_, _, 0, Tryz.underlying204, rfl, rfl, by kernel_rfl⟩
theorem one_202 : TyOne Tryz.prog 202 := ⟨⟨_, Tryz.underlying202, rfl⟩, by kernel_rfl⟩
theorem sl_202 : TySl Tryz.prog 202 231 3 := ⟨Tryz.underlying202, by kernel_rfl⟩
theorem ca_169 : Callable Tryz.prog 169 := ⟨_, _, Tryz.func169, rfl, rfl⟩
theorem sl_72 : TySl Tryz.prog 72 3 1 := ⟨Tryz.underlying72, by kernel_rfl⟩
end FTree1
open FTree1
theorem leaf_spec {A : HP} {ad : Addr} {k : SH} (hk : Vis A (fun w => w.cell? (ad.add 2) = some k.v)) :
  Does Tryz.prog 163 [.pointer (some ad)] [A] (fun v l => v = .bool (decide ((k.len : Int) = 0)) ∧ l = [A]) := by
 refine spec_of Tryz.func163 rfl Tryz.ntmps163 Tryz.results163 _ (by simp) fun ι F => ?_
 refine vc_seq ?_
 refine vc_region ?_
 refine vp ?_
 refine vc_nil ?_
 refine vc_then ?_
 refine vc_seq ?_
 refine vc_region ?_
 refine vp ?_
 refine vp ?_
 refine vc_y (y_fieldG fl_231_2 rfl) rfl ?_
 refine vc_y (y_load1 0 rfl one_72 rfl (hk)) rfl ?_
 refine vc_y (y_len Tryz.underlying72 rfl (by first | assumption | rfl)) rfl ?_
 refine vp ?_
 refine vp ?_
 refine vc_nil ?_
 refine vc_then ?_
 refine vc_ret ?_
 exact vc_end1 Tryz.results163 rfl _ (ent_pick [0] rfl) ⟨rfl, rfl⟩
theorem size_spec {A : HP} {ad : Addr} {k c : SH} (hk : Vis A (fun w => w.cell? (ad.add 0) = some k.v)) (hc : Vis A (fun w => w.cell? (ad.add 2) = some c.v)) :
  Does Tryz.prog 166 [.pointer (some ad)] [A] (fun v l => v = .int .i64 ((if c.len = 0 then k.len else c.len : Nat) : Int) ∧ l = [A]) := by
 refine spec_of Tryz.func166 rfl Tryz.ntmps166 Tryz.results166 _ (by simp) fun ι F => ?_
 refine vc_seq ?_
 refine vc_region ?_
 refine vp ?_
 refine vc_nil ?_
 refine vc_then ?_
 refine vc_seq ?_
 refine vc_seq ?_
 refine vc_region ?_
 refine vp ?_
 refine vc_callv ca_163 (us := []) (vs := []) rfl [_] rfl [0] rfl (leaf_spec hc) rfl ?_
 rintro _ _ ⟨rfl, rfl⟩
 refine vc_nil ?_
 refine vc_then ?_
 first | refine vc_condP rfl (fun c4 => ?_) (fun c4 => ?_) | refine vc_condN rfl (fun c4 => ?_) (fun c4 => ?_) | refine vc_cond rfl (fun c4 => ?_) (fun c4 => ?_)
 ·skip
  refine vc_seq ?_
  refine vc_region ?_
  refine vp ?_
  refine vp ?_
  refine vc_y (y_fieldG fl_231_0 rfl) rfl ?_
  refine vc_y (y_load1 0 rfl one_136 rfl (hk)) rfl ?_
  refine vc_y (y_len Tryz.underlying136 rfl (by first | assumption | rfl)) rfl ?_
  refine vp ?_
  refine vc_nil ?_
  refine vc_then ?_
  refine vc_ret ?_
  refine vc_thenRet ?_
  exact vc_end1 Tryz.results166 rfl _ (ent_pick [0] rfl) ⟨by simp at c4; simp [c4], rfl⟩
 ·skip
  refine vc_skip ?_
  refine vc_then ?_
  refine vc_seq ?_
  refine vc_region ?_
  refine vp ?_
  refine vp ?_
  refine vc_y (y_fieldG fl_231_2 rfl) rfl ?_
  refine vc_y (y_load1 0 rfl one_72 rfl (hc)) rfl ?_
  refine vc_y (y_len Tryz.underlying72 rfl (by first | assumption | rfl)) rfl ?_
  refine vp ?_
  refine vc_nil ?_
  refine vc_then ?_
  refine vc_ret ?_
  exact vc_end1 Tryz.results166 rfl _ (ent_pick [0] rfl) ⟨by simp at c4; simp [c4], rfl⟩
theorem way_spec {A : HP} {ad : Addr} {k : SH} {d : Nd} (hk : Vis A (fun w => w.cell? (ad.add 0) = some k.v)) (hv : Vis A (Rd eStr k d.keys)) (hr : Rise d.keys) (hb : d.keys.length ≤ 1000000) (key : ByteArray) :
  Does Tryz.prog 169 [.pointer (some ad), .string key] [A] (fun v l => v = .int .i64 (wayN d key : Int) ∧ l = [A]) := by
 refine spec_of Tryz.func169 rfl Tryz.ntmps169 Tryz.results169 _ (by simp) fun ι F => ?_
 have hlb := lb_le d.keys key
 refine vc_seq ?_
 refine vc_region ?_
 refine vp ?_
 refine vc_nil ?_
 refine vc_then ?_
 refine vc_seq ?_
 refine vc_region ?_
 refine vp ?_
 refine vp ?_
 refine vc_y (y_fieldG fl_231_0 rfl) rfl ?_
 refine vc_y (y_load1 0 rfl one_136 rfl (hk)) rfl ?_
 refine vp ?_
 refine vc_callv ca_168 (us := []) (vs := []) rfl [_, _] rfl [0] rfl (bsS_spec hv hr key (by omega)) rfl ?_
 rintro _ _ ⟨rfl, rfl⟩
 iterate 5 refine vp ?_
 refine vc_nil ?_
 refine vc_then ?_
 refine vc_seq ?_
 refine vc_seq ?_
 refine vc_region ?_
 refine vp ?_
 refine vc_nil ?_
 refine vc_then ?_
 first | refine vc_condP rfl (fun c16 => ?_) (fun c16 => ?_) | refine vc_condN rfl (fun c16 => ?_) (fun c16 => ?_) | refine vc_cond rfl (fun c16 => ?_) (fun c16 => ?_)
 ·skip
  refine vc_region ?_
  refine vp ?_
  first | refine vc_y (y_arith _ rfl (wrapNadd (by omega))) rfl ?_ | refine vc_y (y_arith _ rfl (wrap64 (by omega) (by omega))) rfl ?_ | refine vp ?_
  refine vp ?_
  refine vc_nil ?_
  refine vc_then ?_
  refine vc_seq ?_
  refine vc_region ?_
  refine vp ?_
  refine vp ?_
  refine vc_nil ?_
  refine vc_then ?_
  refine vc_ret ?_
  exact vc_end1 Tryz.results169 rfl _ (ent_pick [0] rfl) ⟨by simp [wayN, c16], rfl⟩
 ·skip
  refine vc_skip ?_
  refine vc_then ?_
  refine vc_seq ?_
  refine vc_region ?_
  refine vp ?_
  refine vp ?_
  refine vc_nil ?_
  refine vc_then ?_
  refine vc_ret ?_
  exact vc_end1 Tryz.results169 rfl _ (ent_pick [0] rfl) ⟨by simp [wayN, c16], rfl⟩
theorem find_some {b : Nat} {l : List Nd} {fr : List Nat} {r : Nat} {m : Int} {hl hf : SH} {hs : List Nd3} (hlen : hs.length = l.length) (hR : RiseAll l) (key : ByteArray) {f jl : Nat} (hdsc : dsc f l r key = some jl) {d : Nd} (hjd : l[jl]? = some d) :
  Does Tryz.prog 157 [.pointer (some ⟨b, 0, none⟩), .string key] (TO b ⟨l, fr, some r, m⟩ hl hf hs) (fun v l' => v = .tuple #[.pointer (some (eAd hl 3 jl 0)), .int .i64 (lb d.keys key : Int), .bool (fnd d.keys key)] ∧ l' = TO b ⟨l, fr, some r, m⟩ hl hf hs) := by
 refine spec_of Tryz.func157 rfl Tryz.ntmps157 Tryz.results157 _ (by simp) fun ι F => ?_
 refine vc_seq ?_
 refine vc_region ?_
 iterate 3 refine vp ?_
 refine vc_nil ?_
 refine vc_then ?_
 refine vc_seq ?_
 refine vc_seq ?_
 refine vc_region ?_
 refine vp ?_
 refine vc_y (y_eqNil ep_129 rfl rfl) rfl ?_
 refine vp ?_
 refine vc_guardT 12 rfl rfl ?_
 refine vp ?_
 refine vc_guardT 12 rfl rfl ?_
 refine vp ?_
 refine vc_guardT 12 rfl rfl ?_
 refine vc_y (y_fieldP fl_204_2 2 rfl rfl) rfl ?_
 refine vc_guardT 12 rfl rfl ?_
 refine vc_y (y_load1 0 rfl one_3 rfl (Pts.vis rfl)) rfl ?_
 refine vc_guardT 12 rfl rfl ?_
 refine vp ?_
 refine vp ?_
 refine vc_nil ?_
 refine vc_then ?_
 first | refine vc_condP rfl (fun c18 => ?_) (fun c18 => ?_) | refine vc_condN rfl (fun c18 => ?_) (fun c18 => ?_) | refine vc_cond rfl (fun c18 => ?_) (fun c18 => ?_)
 ·skip
  exact absurd c18 (by show ¬ ((r : Int) < 0); omega)
 ·skip
  refine vc_skip ?_
  refine vc_then ?_
  refine vc_seq ?_
  refine vc_draw (by kernel_rfl) _ none [0, 0, 0, 0] rfl ?_
  refine tpp 0 ?_
  refine tpp 1 ?_
  refine tp 2 rfl (by exact y_fieldP fl_204_0 0 rfl rfl) ?_
  refine tk 3 rfl (by exact y_load1 0 rfl one_202 rfl (Pts.vis rfl)) ?_
  refine tpp 4 ?_
  refine tpp 5 ?_
  refine tp 6 rfl (by exact y_fieldP fl_204_2 2 rfl rfl) ?_
  refine tk 7 rfl (by exact y_load1 0 rfl one_3 rfl (Pts.vis rfl)) ?_
  refine tk 8 rfl (by exact y_elem 1 rfl (Sl.vis) r rfl (by have := dsc_lt hdsc; omega) sl_202 rfl rfl) ?_
  refine tpp 9 ?_
  refine va_done (by kernel_rfl) ?_
  refine vc_then ?_
  refine vc_seq ?_
  refine vc_block ?_
  refine vc_loop (α := Nat × Nat) (fun x => match x with | (j, f) => [(0, .pointer (some ⟨b, 0, none⟩)), (1, .string key), (7, .pointer (some (eAd hl 3 j 0)))]) (fun x => match x with | (j, f) => TO b ⟨l, fr, some r, m⟩ hl hf hs) (fun x => match x with | (j, f) => f) (fun x => match x with | (j, f) => dsc f l j key = some jl) (r, f) hdsc ⟨rfl, rfl, rfl, trivial⟩ (ent_pick [0, 0, 0, 0] rfl) ?_
  rintro ⟨j, f⟩ hok
  show VC _ _ _ _ [(0, .pointer (some ⟨b, 0, none⟩)), (1, .string key), (7, .pointer (some (eAd hl 3 j 0)))] (TO b ⟨l, fr, some r, m⟩ hl hf hs)
  obtain ⟨f, d1, rfl, hd, hcase⟩ := dsc_some hok
  obtain ⟨h, hh⟩ := getSome hlen hd
  refine vc_see 3 rfl ((Nodes.visC hh hd).imp fun w r => r.len) (fun hcl => ?_)
  refine vc_seq ?_
  refine vc_seq ?_
  refine vc_region ?_
  refine vp ?_
  refine vc_callv ca_163 (us := []) (vs := []) rfl [_] rfl [1] rfl (leaf_spec (k := h.c) (Rd.vis1 Sl.vis hh rfl)) rfl ?_
  rintro _ _ ⟨rfl, rfl⟩
  refine vp ?_
  refine vc_nil ?_
  refine vc_then ?_
  first | refine vc_condP rfl (fun c30 => ?_) (fun c30 => ?_) | refine vc_condN rfl (fun c30 => ?_) (fun c30 => ?_) | refine vc_cond rfl (fun c30 => ?_) (fun c30 => ?_)
  ·skip
   rcases hcase with ⟨hk0, _⟩ | ⟨hk0, c, hc, hdc⟩
   ·exact absurd (by rw [hcl, hk0]; rfl) c30
   refine vc_skip ?_
   refine vc_then ?_
   refine vc_block ?_
   refine vc_draw (by kernel_rfl) _ none [0, 0, 0, 0] rfl ?_
   refine tpp 0 ?_
   refine tpp 1 ?_
   refine tp 2 rfl (by exact y_fieldP fl_204_0 0 rfl rfl) ?_
   refine tk 3 rfl (by exact y_load1 1 rfl one_202 rfl (Pts.vis rfl)) ?_
   refine tpp 4 ?_
   refine tpp 5 ?_
   refine tp 6 rfl (by exact y_fieldE fl_231_2 2 rfl rfl) ?_
   refine tk 7 rfl (by exact y_load1 0 rfl one_72 rfl (Rd.vis1 (Sl.vis) hh rfl)) ?_
   refine tpp 8 ?_
   refine tpp 9 ?_
   refine va_ready [10] (by kernel_rfl) rfl ?_
   refine vo_cons rfl (fun hC0 => ?_) ?_
   ·skip
    refine vc_callv ca_169 (us := []) (vs := []) rfl [_, _] rfl [0, 2] rfl ((way_spec (d := d1) (k := h.k) (A := seps [Sl eNode hl hs, Nodes hs l]) (Vis.at 0 rfl (Rd.vis1 Sl.vis hh rfl)) (Vis.at 1 rfl (Nodes.visK hh hd)) (hR _ _ hd).1 (hR _ _ hd).2.1 key).many) rfl ?_
    rintro _ _ ⟨rfl, rfl⟩
    refine vc_nil ?_
    refine vc_then ?_
    refine va_kept hC0 [0, 1, 1, 0] rfl ?_
    refine tk 11 rfl (by exact y_elem 3 rfl (Nodes.visC hh hd) (wayN d1 key) rfl (getLt hc) sl_72 rfl rfl) ?_
    refine tk 12 rfl (by exact y_load1 3 rfl one_3 rfl (Rd.vis1 (Nodes.visC hh hd) hc rfl)) ?_
    refine tk 13 rfl (by exact y_elem 0 rfl (Sl.vis) c rfl (by have := dsc_lt hdc; omega) sl_202 rfl rfl) ?_
    refine tpp 14 ?_
    refine va_done (by kernel_rfl) ?_
    refine vc_inNormal ?_
    refine vc_then ?_
    exact vc_again (x := (j, f + 1)) (c, f) hdc (by show f < f + 1; omega) ⟨rfl, rfl, rfl, trivial⟩ (ent_pick [2, 0, 1, 0] rfl)
   exact vo_nil
  ·skip
   obtain ⟨hk0, rfl⟩ : d1.kids = [] ∧ j = jl := by
    rcases hcase with h0 | ⟨h0, _⟩
    ·exact h0
    ·exact absurd (List.eq_nil_of_length_eq_zero (by omega)) h0
   obtain rfl : d = d1 := by rw [hjd] at hd; exact Option.some.inj hd
   refine vc_exit ?_
   refine vc_thenExit ?_
   refine vc_thenExit ?_
   refine vc_inExit ?_
   refine vc_then ?_
   refine vc_seq ?_
   refine vc_region ?_
   refine vp ?_
   refine vp ?_
   refine vc_y (y_fieldE fl_231_0 0 rfl rfl) rfl ?_
   refine vc_y (y_load1 0 rfl one_136 rfl (Rd.vis1 (Sl.vis) hh rfl)) rfl ?_
   refine vp ?_
   refine vc_callv ca_168 (us := []) (vs := []) rfl [_, _] rfl [3] rfl (bsS_spec (Nodes.visK hh hd) (hR _ _ hd).1 key (by have := (hR _ _ hd).2.1; omega)) rfl ?_
   rintro _ _ ⟨rfl, rfl⟩
   iterate 5 refine vp ?_
   refine vc_nil ?_
   refine vc_then ?_
   refine vc_seq ?_
   refine vc_region ?_
   iterate 6 refine vp ?_
   refine vc_nil ?_
   refine vc_then ?_
   refine vc_ret ?_
   exact vc_end3 Tryz.results157 rfl rfl rfl _ (ent_pick [2, 1, 1, 0] rfl) ⟨rfl, rfl⟩
theorem find_none {b : Nat} {l : List Nd} {fr : List Nat} {m : Int} {hl hf : SH} {hs : List Nd3} (key : ByteArray) :
  Does Tryz.prog 157 [.pointer (some ⟨b, 0, none⟩), .string key] (TO b ⟨l, fr, none, m⟩ hl hf hs) (fun v l' => v = .tuple #[.pointer none, .int .i64 0, .bool false] ∧ l' = TO b ⟨l, fr, none, m⟩ hl hf hs) := by
 refine spec_of Tryz.func157 rfl Tryz.ntmps157 Tryz.results157 _ (by simp) fun ι F => ?_
 refine vc_seq ?_
 refine vc_region ?_
 iterate 3 refine vp ?_
 refine vc_nil ?_
 refine vc_then ?_
 refine vc_seq ?_
 refine vc_seq ?_
 refine vc_region ?_
 refine vp ?_
 refine vc_y (y_eqNil ep_129 rfl rfl) rfl ?_
 refine vp ?_
 refine vc_guardT 12 rfl rfl ?_
 refine vp ?_
 refine vc_guardT 12 rfl rfl ?_
 refine vp ?_
 refine vc_guardT 12 rfl rfl ?_
 refine vc_y (y_fieldP fl_204_2 2 rfl rfl) rfl ?_
 refine vc_guardT 12 rfl rfl ?_
 refine vc_y (y_load1 0 rfl one_3 rfl (Pts.vis rfl)) rfl ?_
 refine vc_guardT 12 rfl rfl ?_
 refine vp ?_
 refine vp ?_
 refine vc_nil ?_
 refine vc_then ?_
 first | refine vc_condP rfl (fun c18 => ?_) (fun c18 => ?_) | refine vc_condN rfl (fun c18 => ?_) (fun c18 => ?_) | refine vc_cond rfl (fun c18 => ?_) (fun c18 => ?_)
 ·skip
  refine vc_seq ?_
  refine vc_region ?_
  iterate 3 refine vp ?_
  refine vc_nil ?_
  refine vc_then ?_
  refine vc_ret ?_
  refine vc_thenRet ?_
  exact vc_end3 Tryz.results157 rfl rfl rfl _ (ent_pick [0, 0, 0, 0] rfl) ⟨rfl, rfl⟩
 ·skip
  exact absurd (by show (-1 : Int) < 0; omega) c18
end Go.Proofs.YtcpbibdbahfgaaaGreat
namespace Go.Proofs.YtcpbibdbahfgaaaGreat
open Go.Eng
namespace FTree2
theorem ca_157 : Callable Tryz.prog 157 := ⟨_, _, Tryz.func157, rfl, rfl⟩
theorem fl_231_1 : Fld Tryz.prog 231 1 1 := ⟨_, _, 0, Tryz.underlying231, rfl, rfl, by kernel_rfl⟩
theorem one_72 : TyOne Tryz.prog 72 := ⟨⟨_, Tryz.underlying72, rfl⟩, by kernel_rfl⟩
theorem sl_72 : TySl Tryz.prog 72 3 1 := ⟨Tryz.underlying72, by kernel_rfl⟩
theorem one_3 : TyOne Tryz.prog 3 := ⟨⟨_, Tryz.underlying3, rfl⟩, by kernel_rfl⟩
theorem ep_129 : Tryz.prog.underlying 129 = some (.pointer (Tryz.prog.pointee 129)) := by kernel_rfl
theorem fl_204_2 : Fld Tryz.prog 204 2 2 := ⟨_, _, 0, Tryz.underlying204, rfl, rfl, by kernel_rfl⟩
theorem fl_204_3 : Fld Tryz.prog 204 3 3 := ⟨_, _, 0, Tryz.underlying204, rfl, rfl, by kernel_rfl⟩
theorem fl_204_0 : Fld Tryz.prog 204 0 0 := ⟨_, _, 0, Tryz.underlying204, rfl, rfl, by kernel_rfl⟩
theorem one_202 : TyOne Tryz.prog 202 := ⟨⟨_, Tryz.underlying202, rfl⟩, by kernel_rfl⟩
theorem sl_202 : TySl Tryz.prog 202 231 3 := ⟨Tryz.underlying202, by kernel_rfl⟩
theorem ca_163 : Callable Tryz.prog 163 := ⟨_, _, Tryz.func163, rfl, rfl⟩
theorem fl_231_2 : Fld Tryz.prog 231 2 2 := ⟨_, _, 0, Tryz.underlying231, rfl, rfl, by kernel_rfl⟩
theorem fl_231_0 : Fld Tryz.prog 231 0 0 := ⟨_, _, 0, Tryz.underlying231, rfl, rfl, by kernel_rfl⟩
theorem one_136 : TyOne Tryz.prog 136 := ⟨⟨_, Tryz.underlying136, rfl⟩, by kernel_rfl⟩
theorem sl_136 : TySl Tryz.prog 136 9 1 := ⟨Tryz.underlying136, by kernel_rfl⟩
theorem one_9 : TyOne Tryz.prog 9 := ⟨⟨_, Tryz.underlying9, rfl⟩, by kernel_rfl⟩
theorem ca_168 : Callable Tryz.prog 168 := ⟨_, _, Tryz.func168, rfl, rfl⟩
theorem ca_169 : Callable Tryz.prog 169 := ⟨_, _, Tryz.func169, rfl, rfl⟩
theorem ca_133 : Callable Tryz.prog 133 := ⟨_, _, Tryz.func133, rfl, rfl⟩
theorem ca_170 : Callable Tryz.prog 170 := ⟨_, _, Tryz.func170, rfl, rfl⟩
theorem ca_132 : Callable Tryz.prog 132 := ⟨_, _, Tryz.func132, rfl, rfl⟩
end FTree2
open FTree2
theorem get_some {b : Nat} {l : List Nd} {fr : List Nat} {r : Nat} {m : Int} {hl hf : SH} {hs : List Nd3} (hlen : hs.length = l.length) (hR : RiseAll l) (key : ByteArray) {f jl : Nat} (hdsc : dsc f l r key = some jl) {d : Nd} (hjd : l[jl]? = some d) (hn : d.nums.length = d.keys.length) :
  Does Tryz.prog 126 [.pointer (some ⟨b, 0, none⟩), .string key] (TO b ⟨l, fr, some r, m⟩ hl hf hs) (fun v l' => v = .tuple #[.int .i64 (getN d key).1, .bool (getN d key).2] ∧ l' = TO b ⟨l, fr, some r, m⟩ hl hf hs) := by
 refine spec_of Tryz.func126 rfl Tryz.ntmps126 Tryz.results126 _ (by simp) fun ι F => ?_
 obtain ⟨h, hh⟩ := getSome hlen hjd
 have hlb := lb_le d.keys key
 have hfl : fnd d.keys key = true → lb d.keys key < d.keys.length := fun e => by
  simp only [fnd] at e
  split at e
  ·rename_i hx; exact getLt hx
  ·cases e
 refine vc_seq ?_
 refine vc_region ?_
 refine vp ?_
 refine vp ?_
 refine vc_nil ?_
 refine vc_then ?_
 refine vc_seq ?_
 refine vc_region ?_
 refine vp ?_
 refine vp ?_
 refine vc_callv ca_157 (us := []) (vs := []) rfl [_, _] rfl [0, 0, 0, 0] rfl (find_some hlen hR key hdsc hjd) rfl ?_
 rintro _ _ ⟨rfl, rfl⟩
 iterate 7 refine vp ?_
 refine vc_nil ?_
 refine vc_then ?_
 refine vc_seq ?_
 refine vc_seq ?_
 refine vc_region ?_
 refine vp ?_
 refine vp ?_
 refine vc_nil ?_
 refine vc_then ?_
 first | refine vc_condP rfl (fun c17 => ?_) (fun c17 => ?_) | refine vc_condN rfl (fun c17 => ?_) (fun c17 => ?_) | refine vc_cond rfl (fun c17 => ?_) (fun c17 => ?_)
 ·skip
  have hf : fnd d.keys key = false := by simpa using c17
  refine vc_seq ?_
  refine vc_region ?_
  refine vp ?_
  refine vp ?_
  refine vc_nil ?_
  refine vc_then ?_
  refine vc_ret ?_
  refine vc_thenRet ?_
  exact vc_end2 Tryz.results126 rfl rfl _ (ent_pick [0, 0, 0, 0] rfl) ⟨by simp [getN, hf], rfl⟩
 ·skip
  have hf : fnd d.keys key = true := by simpa using c17
  have hlt := hfl hf
  refine vc_skip ?_
  refine vc_then ?_
  refine vc_seq ?_
  refine vc_region ?_
  refine vp ?_
  refine vp ?_
  refine vc_y (y_fieldE fl_231_1 1 rfl rfl) rfl ?_
  refine vc_y (y_load1 1 rfl one_72 rfl (Rd.vis1 (Sl.vis) hh rfl)) rfl ?_
  refine vp ?_
  refine vc_y (y_elem 3 rfl (Nodes.visN hh hjd) (lb d.keys key) rfl (by omega) sl_72 rfl rfl) rfl ?_
  refine vc_y (y_load1 3 rfl one_3 rfl (Rd.vis1 (Nodes.visN hh hjd) (List.getElem?_eq_getElem (by first | assumption | omega)) rfl)) rfl ?_
  refine vp ?_
  refine vp ?_
  refine vc_nil ?_
  refine vc_then ?_
  refine vc_ret ?_
  exact vc_end2 Tryz.results126 rfl rfl _ (ent_pick [0, 0, 0, 0] rfl) ⟨by simp [getN, hf, List.getElem?_eq_getElem (show lb d.keys key < d.nums.length by omega)], rfl⟩
theorem get_none {b : Nat} {l : List Nd} {fr : List Nat} {m : Int} {hl hf : SH} {hs : List Nd3} (key : ByteArray) :
  Does Tryz.prog 126 [.pointer (some ⟨b, 0, none⟩), .string key] (TO b ⟨l, fr, none, m⟩ hl hf hs) (fun v l' => v = .tuple #[.int .i64 0, .bool false] ∧ l' = TO b ⟨l, fr, none, m⟩ hl hf hs) := by
 refine spec_of Tryz.func126 rfl Tryz.ntmps126 Tryz.results126 _ (by simp) fun ι F => ?_
 refine vc_seq ?_
 refine vc_region ?_
 refine vp ?_
 refine vp ?_
 refine vc_nil ?_
 refine vc_then ?_
 refine vc_seq ?_
 refine vc_region ?_
 refine vp ?_
 refine vp ?_
 refine vc_callv ca_157 (us := []) (vs := []) rfl [_, _] rfl [0, 0, 0, 0] rfl (find_none key) rfl ?_
 rintro _ _ ⟨rfl, rfl⟩
 iterate 7 refine vp ?_
 refine vc_nil ?_
 refine vc_then ?_
 refine vc_seq ?_
 refine vc_seq ?_
 refine vc_region ?_
 refine vp ?_
 refine vp ?_
 refine vc_nil ?_
 refine vc_then ?_
 refine vc_condT rfl ?_
 refine vc_seq ?_
 refine vc_region ?_
 refine vp ?_
 refine vp ?_
 refine vc_nil ?_
 refine vc_then ?_
 refine vc_ret ?_
 refine vc_thenRet ?_
 exact vc_end2 Tryz.results126 rfl rfl _ (ent_pick [0, 0, 0, 0] rfl) ⟨rfl, rfl⟩
theorem some_spec {b : Nat} {l : List Nd} {fr : List Nat} {m : Int} {hl hf : SH} {hs : List Nd3} {r : Option Nat} :
  Does Tryz.prog 132 [.pointer (some ⟨b, 0, none⟩)] (TO b ⟨l, fr, r, m⟩ hl hf hs) (fun v l' => v = .bool r.isSome ∧ l' = TO b ⟨l, fr, r, m⟩ hl hf hs) := by
 refine spec_of Tryz.func132 rfl Tryz.ntmps132 Tryz.results132 _ (by simp) fun ι F => ?_
 refine vc_seq ?_
 refine vc_region ?_
 refine vp ?_
 refine vc_nil ?_
 refine vc_then ?_
 refine vc_seq ?_
 refine vc_region ?_
 refine vp ?_
 refine vc_y (y_neNil ep_129 rfl rfl) rfl ?_
 refine vp ?_
 refine vc_guardT 5 rfl rfl ?_
 refine vp ?_
 refine vc_guardT 5 rfl rfl ?_
 refine vp ?_
 refine vc_guardT 5 rfl rfl ?_
 refine vc_y (y_fieldP fl_204_2 2 rfl rfl) rfl ?_
 refine vc_guardT 5 rfl rfl ?_
 refine vc_y (y_load1 0 rfl one_3 rfl (Pts.vis rfl)) rfl ?_
 refine vc_guardT 5 rfl rfl ?_
 iterate 3 refine vp ?_
 refine vc_nil ?_
 refine vc_then ?_
 refine vc_ret ?_
 exact vc_end1 Tryz.results132 rfl _ (ent_pick [0, 0, 0, 0] rfl) ⟨by cases r <;> simp [rootV] <;> omega, rfl⟩
theorem len_spec {b : Nat} {l : List Nd} {fr : List Nat} {m : Int} {hl hf : SH} {hs : List Nd3} {r : Option Nat} :
  Does Tryz.prog 125 [.pointer (some ⟨b, 0, none⟩)] (TO b ⟨l, fr, r, m⟩ hl hf hs) (fun v l' => v = .int .i64 m ∧ l' = TO b ⟨l, fr, r, m⟩ hl hf hs) := by
 refine spec_of Tryz.func125 rfl Tryz.ntmps125 Tryz.results125 _ (by simp) fun ι F => ?_
 refine vc_seq ?_
 refine vc_region ?_
 refine vp ?_
 refine vc_nil ?_
 refine vc_then ?_
 refine vc_seq ?_
 refine vc_seq ?_
 refine vc_region ?_
 refine vp ?_
 refine vc_y (y_eqNil ep_129 rfl rfl) rfl ?_
 refine vc_nil ?_
 refine vc_then ?_
 refine vc_condF rfl ?_
 refine vc_skip ?_
 refine vc_then ?_
 refine vc_seq ?_
 refine vc_region ?_
 refine vp ?_
 refine vp ?_
 refine vc_y (y_fieldP fl_204_3 3 rfl rfl) rfl ?_
 refine vc_y (y_load1 0 rfl one_3 rfl (Pts.vis rfl)) rfl ?_
 refine vp ?_
 refine vc_nil ?_
 refine vc_then ?_
 refine vc_ret ?_
 exact vc_end1 Tryz.results125 rfl _ (ent_pick [0, 0, 0, 0] rfl) ⟨rfl, rfl⟩
theorem edge_spec {b : Nat} {l : List Nd} {fr : List Nat} {r : Nat} {m : Int} {hl hf : SH} {hs : List Nd3} (hlen : hs.length = l.length) (hR : RiseAll l) {i f : Nat} {q : ByteArray × Int} (he : edg f l i = some q) :
  Does Tryz.prog 170 [.pointer (some ⟨b, 0, none⟩), .int .i64 (i : Int), .bool false] (TO b ⟨l, fr, some r, m⟩ hl hf hs) (fun v l' => v = .tuple #[.string q.1, .int .i64 q.2, .bool true] ∧ l' = TO b ⟨l, fr, some r, m⟩ hl hf hs) := by
 refine spec_of Tryz.func170 rfl Tryz.ntmps170 Tryz.results170 _ (by simp) fun ι F => ?_
 refine vc_seq ?_
 refine vc_region ?_
 iterate 3 refine vp ?_
 refine vc_nil ?_
 refine vc_then ?_
 refine vc_seq ?_
 refine vc_region ?_
 refine vp ?_
 refine vp ?_
 refine vc_y (y_fieldP fl_204_0 0 rfl rfl) rfl ?_
 refine vc_y (y_load1 0 rfl one_202 rfl (Pts.vis rfl)) rfl ?_
 refine vp ?_
 refine vc_y (y_elem 1 rfl (Sl.vis) i rfl (by have := edg_lt he; omega) sl_202 rfl rfl) rfl ?_
 refine vp ?_
 refine vc_nil ?_
 refine vc_then ?_
 refine vc_seq ?_
 refine vc_block ?_
 refine vc_loop (α := Nat × Nat) (fun x => match x with | (j, f) => [(0, .pointer (some ⟨b, 0, none⟩)), (2, .bool false), (9, .pointer (some (eAd hl 3 j 0)))]) (fun x => match x with | (j, f) => TO b ⟨l, fr, some r, m⟩ hl hf hs) (fun x => match x with | (j, f) => f) (fun x => match x with | (j, f) => edg f l j = some q) (i, f) he ⟨rfl, rfl, rfl, trivial⟩ (ent_pick [0, 0, 0, 0] rfl) ?_
 rintro ⟨j, f⟩ hok
 show VC _ _ _ _ [(0, .pointer (some ⟨b, 0, none⟩)), (2, .bool false), (9, .pointer (some (eAd hl 3 j 0)))] (TO b ⟨l, fr, some r, m⟩ hl hf hs)
 obtain ⟨f, d1, rfl, hd, hcase⟩ := edg_some hok
 obtain ⟨h, hh⟩ := getSome hlen hd
 refine vc_see 3 rfl ((Nodes.visC hh hd).imp fun w r => r.len) (fun hcl => ?_)
 refine vc_seq ?_
 refine vc_seq ?_
 refine vc_region ?_
 refine vp ?_
 refine vc_callv ca_163 (us := []) (vs := []) rfl [_] rfl [1] rfl (leaf_spec (k := h.c) (Rd.vis1 Sl.vis hh rfl)) rfl ?_
 rintro _ _ ⟨rfl, rfl⟩
 refine vp ?_
 refine vc_nil ?_
 refine vc_then ?_
 first | refine vc_condP rfl (fun c20 => ?_) (fun c20 => ?_) | refine vc_condN rfl (fun c20 => ?_) (fun c20 => ?_) | refine vc_cond rfl (fun c20 => ?_) (fun c20 => ?_)
 ·skip
  rcases hcase with ⟨hk0, _⟩ | ⟨hk0, c, hc, hdc⟩
  ·exact absurd (by rw [hcl, hk0]; rfl) c20
  refine vc_skip ?_
  refine vc_then ?_
  refine vc_block ?_
  refine vc_seq ?_
  refine vc_region ?_
  refine vp ?_
  refine vc_nil ?_
  refine vc_then ?_
  refine vc_seq ?_
  refine vc_seq ?_
  refine vc_region ?_
  refine vp ?_
  refine vc_nil ?_
  refine vc_then ?_
  refine vc_condF rfl ?_
  refine vc_skip ?_
  refine vc_then ?_
  refine vc_draw (by kernel_rfl) _ none [0, 0, 0, 0] rfl ?_
  refine tpp 0 ?_
  refine tpp 1 ?_
  refine tp 2 rfl (by exact y_fieldP fl_204_0 0 rfl rfl) ?_
  refine tk 3 rfl (by exact y_load1 1 rfl one_202 rfl (Pts.vis rfl)) ?_
  refine tpp 4 ?_
  refine tpp 5 ?_
  refine tp 6 rfl (by exact y_fieldE fl_231_2 2 rfl rfl) ?_
  refine tk 7 rfl (by exact y_load1 0 rfl one_72 rfl (Rd.vis1 (Sl.vis) hh rfl)) ?_
  refine tpp 8 ?_
  refine tk 9 rfl (by exact y_elem 3 rfl (Nodes.visC hh hd) 0 rfl (getLt hc) sl_72 rfl rfl) ?_
  refine tk 10 rfl (by exact y_load1 3 rfl one_3 rfl (Rd.vis1 (Nodes.visC hh hd) hc rfl)) ?_
  refine tk 11 rfl (by exact y_elem 0 rfl (Sl.vis) c rfl (by have := edg_lt hdc; omega) sl_202 rfl rfl) ?_
  refine tpp 12 ?_
  refine va_done (by kernel_rfl) ?_
  refine vc_inNormal ?_
  refine vc_then ?_
  exact vc_again (x := (j, f + 1)) (c, f) hdc (by show f < f + 1; omega) ⟨rfl, rfl, rfl, trivial⟩ (ent_pick [1, 0, 0, 0] rfl)
 ·skip
  obtain ⟨hk0, hq1, hq2⟩ : d1.kids = [] ∧ d1.keys[0]? = some q.1 ∧ d1.nums[0]? = some q.2 := by
   rcases hcase with h0 | ⟨h0, _⟩
   ·exact h0
   ·exact absurd (List.eq_nil_of_length_eq_zero (by omega)) h0
  refine vc_exit ?_
  refine vc_thenExit ?_
  refine vc_thenExit ?_
  refine vc_inExit ?_
  refine vc_then ?_
  refine vc_seq ?_
  refine vc_region ?_
  refine vp ?_
  refine vc_nil ?_
  refine vc_then ?_
  refine vc_seq ?_
  refine vc_seq ?_
  refine vc_region ?_
  refine vp ?_
  refine vc_nil ?_
  refine vc_then ?_
  refine vc_condF rfl ?_
  refine vc_skip ?_
  refine vc_then ?_
  refine vc_seq ?_
  refine vc_draw (by kernel_rfl) _ none [0, 0, 0, 0] rfl ?_
  refine tpp 0 ?_
  refine tpp 1 ?_
  refine tp 2 rfl (by exact y_fieldE fl_231_0 0 rfl rfl) ?_
  refine tk 3 rfl (by exact y_load1 0 rfl one_136 rfl (Rd.vis1 (Sl.vis) hh rfl)) ?_
  refine tpp 4 ?_
  refine tk 5 rfl (by exact y_elem 3 rfl (Nodes.visK hh hd) 0 rfl (getLt hq1) sl_136 rfl rfl) ?_
  refine tk 6 rfl (by exact y_load1 3 rfl one_9 rfl (Rd.vis1 (Nodes.visK hh hd) hq1 rfl)) ?_
  refine tpp 7 ?_
  refine tpp 8 ?_
  refine tp 9 rfl (by exact y_fieldE fl_231_1 1 rfl rfl) ?_
  refine tk 10 rfl (by exact y_load1 0 rfl one_72 rfl (Rd.vis1 (Sl.vis) hh rfl)) ?_
  refine tpp 11 ?_
  refine tk 12 rfl (by exact y_elem 3 rfl (Nodes.visN hh hd) 0 rfl (getLt hq2) sl_72 rfl rfl) ?_
  refine tk 13 rfl (by exact y_load1 3 rfl one_3 rfl (Rd.vis1 (Nodes.visN hh hd) hq2 rfl)) ?_
  refine tpp 14 ?_
  refine tpp 15 ?_
  refine tpp 16 ?_
  refine va_done (by kernel_rfl) ?_
  refine vc_then ?_
  refine vc_ret ?_
  exact vc_end3 Tryz.results170 rfl rfl rfl _ (ent_pick [1, 0, 0, 0] rfl) ⟨rfl, rfl⟩
theorem first_step {b : Nat} {l : List Nd} {fr : List Nat} {r : Nat} {m : Int} {hl hf : SH} {hs : List Nd3} (hlen : hs.length = l.length) (hR : RiseAll l) (key : ByteArray) (above : Bool) {i f : Nat} {res : Option (ByteArray × Int)} (hf0 : fstN (f + 1) l i key above = some res)
  (ih : ∀ (c : Nat) (r' : Option (ByteArray × Int)), fstN f l c key above = some r' → Does Tryz.prog 133 [.pointer (some ⟨b, 0, none⟩), .int .i64 (c : Int), .string key, .bool above] (TO b ⟨l, fr, some r, m⟩ hl hf hs) (fun v l' => v = resV r' ∧ l' = TO b ⟨l, fr, some r, m⟩ hl hf hs)) :
  Does Tryz.prog 133 [.pointer (some ⟨b, 0, none⟩), .int .i64 (i : Int), .string key, .bool above] (TO b ⟨l, fr, some r, m⟩ hl hf hs) (fun v l' => v = resV res ∧ l' = TO b ⟨l, fr, some r, m⟩ hl hf hs) := by
 refine spec_of Tryz.func133 rfl Tryz.ntmps133 Tryz.results133 _ (by simp) fun ι F => ?_
 obtain ⟨d, hd, hcase⟩ := fstN_some hf0
 obtain ⟨h, hh⟩ := getSome hlen hd
 have hil := getLt hd
 have hlb := lb_le d.keys key
 have hb1 := (hR _ _ hd).2.1
 have hb2 := (hR _ _ hd).2.2
 refine vc_see 3 rfl ((Nodes.visC hh hd).imp fun w r => r.len) (fun hcl => ?_)
 refine vc_see 3 rfl ((Nodes.visK hh hd).imp fun w r => r.len) (fun hkl => ?_)
 refine vc_seq ?_
 refine vc_region ?_
 iterate 3 refine vp ?_
 refine vc_nil ?_
 refine vc_then ?_
 refine vc_seq ?_
 refine vc_region ?_
 refine vp ?_
 refine vp ?_
 refine vc_y (y_fieldP fl_204_0 0 rfl rfl) rfl ?_
 refine vc_y (y_load1 0 rfl one_202 rfl (Pts.vis rfl)) rfl ?_
 refine vp ?_
 refine vc_y (y_elem 1 rfl (Sl.vis) i rfl (by omega) sl_202 rfl rfl) rfl ?_
 refine vp ?_
 refine vc_nil ?_
 refine vc_then ?_
 refine vc_seq ?_
 refine vc_seq ?_
 refine vc_region ?_
 refine vp ?_
 refine vc_callv ca_163 (us := []) (vs := []) rfl [_] rfl [1] rfl (leaf_spec (k := h.c) (Rd.vis1 Sl.vis hh rfl)) rfl ?_
 rintro _ _ ⟨rfl, rfl⟩
 refine vc_nil ?_
 refine vc_then ?_
 first | refine vc_condP rfl (fun c25 => ?_) (fun c25 => ?_) | refine vc_condN rfl (fun c25 => ?_) (fun c25 => ?_) | refine vc_cond rfl (fun c25 => ?_) (fun c25 => ?_)
 ·skip
  obtain ⟨hk0, hcase⟩ : d.kids = [] ∧ ((d.keys.length ≤ fst1 above d key ∧ res = none) ∨ (∃ k n, d.keys[fst1 above d key]? = some k ∧ d.nums[fst1 above d key]? = some n ∧ res = some (k, n))) := by
   rcases hcase with h0 | ⟨h0, _⟩
   ·exact h0
   ·exact absurd (List.eq_nil_of_length_eq_zero (by omega)) h0
  refine vc_seq ?_
  refine vc_region ?_
  refine vp ?_
  refine vp ?_
  refine vc_y (y_fieldE fl_231_0 0 rfl rfl) rfl ?_
  refine vc_y (y_load1 0 rfl one_136 rfl (Rd.vis1 (Sl.vis) hh rfl)) rfl ?_
  refine vp ?_
  refine vc_callv ca_168 (us := []) (vs := []) rfl [_, _] rfl [3] rfl (bsS_spec (Nodes.visK hh hd) (hR _ _ hd).1 key (by omega)) rfl ?_
  rintro _ _ ⟨rfl, rfl⟩
  iterate 5 refine vp ?_
  refine vc_nil ?_
  refine vc_then ?_
  refine vc_seq ?_
  refine vc_cut (α := Unit) (fun x => match x with | () => [(0, .pointer (some ⟨b, 0, none⟩)), (2, .string key), (3, .bool above), (11, .pointer (some (eAd hl 3 i 0))), (12, .int .i64 (fst1 above d key : Int))]) (fun x => match x with | () => TO b ⟨l, fr, some r, m⟩ hl hf hs) (fun x => match x with | () => True) ?_ ?_
  ·skip
   refine vc_seq ?_
   refine vc_region ?_
   refine vp ?_
   refine vp ?_
   first | refine vc_splitP 36 rfl (fun c36 => ?_) (fun c36 => ?_) | refine vc_splitN 36 rfl (fun c36 => ?_) (fun c36 => ?_) | refine vc_split 36 rfl (fun c36 => ?_) (fun c36 => ?_)
   ·skip
    refine vc_guardT 36 rfl rfl ?_
    refine vp ?_
    refine vp ?_
    refine vc_nil ?_
    refine vc_then ?_
    first | refine vc_condP rfl (fun c38 => ?_) (fun c38 => ?_) | refine vc_condN rfl (fun c38 => ?_) (fun c38 => ?_) | refine vc_cond rfl (fun c38 => ?_) (fun c38 => ?_)
    ·skip
     have hK : fst1 above d key = lb d.keys key + 1 := by simp [fst1, c36, c38]
     refine vc_region ?_
     refine vp ?_
     first | refine vc_y (y_arith _ rfl (wrapNadd (by omega))) rfl ?_ | refine vc_y (y_arith _ rfl (wrap64 (by omega) (by omega))) rfl ?_ | refine vp ?_
     refine vp ?_
     refine vc_nil ?_
     refine vc_then ?_
     exact vc_met () trivial ⟨rfl, rfl, rfl, rfl, by rw [hK]; rfl, trivial⟩ (ent_pick [2, 1, 1, 0] rfl)
    ·skip
     have hK : fst1 above d key = lb d.keys key := by simp [fst1, c38]
     refine vc_skip ?_
     refine vc_then ?_
     exact vc_met () trivial ⟨rfl, rfl, rfl, rfl, by rw [hK]; rfl, trivial⟩ (ent_pick [2, 1, 1, 0] rfl)
   ·skip
    have hK : fst1 above d key = lb d.keys key := by simp [fst1, c36]
    refine vc_guardF 36 rfl rfl rfl rfl ?_
    refine vp ?_
    refine vc_nil ?_
    refine vc_then ?_
    refine vc_condF rfl ?_
    refine vc_skip ?_
    refine vc_then ?_
    exact vc_met () trivial ⟨rfl, rfl, rfl, rfl, by rw [hK]; rfl, trivial⟩ (ent_pick [2, 1, 1, 0] rfl)
  rintro ⟨⟩ _
  show VC _ _ _ _ [(0, .pointer (some ⟨b, 0, none⟩)), (2, .string key), (3, .bool above), (11, .pointer (some (eAd hl 3 i 0))), (12, .int .i64 (fst1 above d key : Int))] (TO b ⟨l, fr, some r, m⟩ hl hf hs)
  refine vc_seq ?_
  refine vc_seq ?_
  refine vc_region ?_
  iterate 3 refine vp ?_
  refine vc_y (y_fieldE fl_231_0 0 rfl rfl) rfl ?_
  refine vc_y (y_load1 1 rfl one_136 rfl (Rd.vis1 (Sl.vis) hh rfl)) rfl ?_
  refine vc_y (y_len Tryz.underlying136 rfl (by first | assumption | rfl)) rfl ?_
  refine vp ?_
  refine vc_nil ?_
  refine vc_then ?_
  first | refine vc_condP rfl (fun c47 => ?_) (fun c47 => ?_) | refine vc_condN rfl (fun c47 => ?_) (fun c47 => ?_) | refine vc_cond rfl (fun c47 => ?_) (fun c47 => ?_)
  ·skip
   obtain rfl : res = none := by
    rcases hcase with h0 | ⟨_, _, h0, _⟩
    ·exact h0.2
    ·have := getLt h0; omega
   refine vc_seq ?_
   refine vc_region ?_
   iterate 3 refine vp ?_
   refine vc_nil ?_
   refine vc_then ?_
   refine vc_ret ?_
   refine vc_thenRet ?_
   refine vc_thenRet ?_
   exact vc_end3 Tryz.results133 rfl rfl rfl _ (ent_pick [0, 0, 0, 0] rfl) ⟨rfl, rfl⟩
  ·skip
   obtain ⟨k1, n1, hq1, hq2, rfl⟩ := hcase.resolve_left (by omega)
   refine vc_skip ?_
   refine vc_then ?_
   refine vc_seq ?_
   refine vc_draw (by kernel_rfl) _ none [0, 0, 0, 0] rfl ?_
   refine tpp 0 ?_
   refine tpp 1 ?_
   refine tp 2 rfl (by exact y_fieldE fl_231_0 0 rfl rfl) ?_
   refine tk 3 rfl (by exact y_load1 1 rfl one_136 rfl (Rd.vis1 (Sl.vis) hh rfl)) ?_
   refine tpp 4 ?_
   refine tk 5 rfl (by exact y_elem 3 rfl (Nodes.visK hh hd) (fst1 above d key) rfl (getLt hq1) sl_136 rfl rfl) ?_
   refine tk 6 rfl (by exact y_load1 3 rfl one_9 rfl (Rd.vis1 (Nodes.visK hh hd) hq1 rfl)) ?_
   refine tpp 7 ?_
   refine tpp 8 ?_
   refine tp 9 rfl (by exact y_fieldE fl_231_1 1 rfl rfl) ?_
   refine tk 10 rfl (by exact y_load1 1 rfl one_72 rfl (Rd.vis1 (Sl.vis) hh rfl)) ?_
   refine tpp 11 ?_
   refine tk 12 rfl (by exact y_elem 3 rfl (Nodes.visN hh hd) (fst1 above d key) rfl (getLt hq2) sl_72 rfl rfl) ?_
   refine tk 13 rfl (by exact y_load1 3 rfl one_3 rfl (Rd.vis1 (Nodes.visN hh hd) hq2 rfl)) ?_
   refine tpp 14 ?_
   refine tpp 15 ?_
   refine tpp 16 ?_
   refine va_done (by kernel_rfl) ?_
   refine vc_then ?_
   refine vc_ret ?_
   refine vc_thenRet ?_
   exact vc_end3 Tryz.results133 rfl rfl rfl _ (ent_pick [0, 0, 0, 0] rfl) ⟨rfl, rfl⟩
 ·skip
  rcases hcase with ⟨hk0, _⟩ | ⟨hk0, c, r', hc, hr', hcase⟩
  ·exact absurd (by rw [hcl, hk0]; rfl) c25
  have hwl := getLt hc
  refine vc_skip ?_
  refine vc_then ?_
  refine vc_seq ?_
  refine vc_region ?_
  refine vp ?_
  refine vp ?_
  refine vc_callv ca_169 (us := []) (vs := []) rfl [_, _] rfl [0, 2] rfl ((way_spec (d := d) (k := h.k) (A := seps [Sl eNode hl hs, Nodes hs l]) (Vis.at 0 rfl (Rd.vis1 Sl.vis hh rfl)) (Vis.at 1 rfl (Nodes.visK hh hd)) (hR _ _ hd).1 hb1 key).many) rfl ?_
  rintro _ _ ⟨rfl, rfl⟩
  refine vp ?_
  refine vc_nil ?_
  refine vc_then ?_
  refine vc_seq ?_
  refine vc_seq ?_
  refine vc_region ?_
  iterate 3 refine vp ?_
  refine vc_y (y_fieldE fl_231_2 2 rfl rfl) rfl ?_
  refine vc_y (y_load1 0 rfl one_72 rfl (Rd.vis1 (Sl.vis) hh rfl)) rfl ?_
  refine vp ?_
  refine vc_y (y_elem 1 rfl (Nodes.visC hh hd) (wayN d key) rfl hwl sl_72 rfl rfl) rfl ?_
  refine vc_y (y_load1 1 rfl one_3 rfl (Rd.vis1 (Nodes.visC hh hd) hc rfl)) rfl ?_
  refine vp ?_
  refine vp ?_
  refine vc_callv ca_133 (us := []) (vs := []) rfl [_, _, _, _] rfl [2, 0, 1, 0] rfl (ih c r' hr') rfl ?_
  rintro _ _ ⟨rfl, rfl⟩
  iterate 7 refine vp ?_
  refine vc_nil ?_
  refine vc_then ?_
  refine vc_seq ?_
  refine vc_region ?_
  refine vp ?_
  refine vc_nil ?_
  refine vc_then ?_
  first | refine vc_condP rfl (fun c80 => ?_) (fun c80 => ?_) | refine vc_condN rfl (fun c80 => ?_) (fun c80 => ?_) | refine vc_cond rfl (fun c80 => ?_) (fun c80 => ?_)
  ·skip
   obtain ⟨q, rfl, rfl⟩ : ∃ q, r' = some q ∧ res = some q := by
    rcases hcase with h0 | ⟨rfl, _⟩
    ·exact h0
    ·simp [resB] at c80
   refine vc_seq ?_
   refine vc_region ?_
   iterate 5 refine vp ?_
   refine vc_nil ?_
   refine vc_then ?_
   refine vc_ret ?_
   refine vc_thenRet ?_
   exact vc_end3 Tryz.results133 rfl rfl rfl _ (ent_pick [0, 0, 0, 0] rfl) ⟨rfl, rfl⟩
  ·skip
   obtain ⟨rfl, hcase2⟩ : r' = none ∧ ((d.kids[wayN d key + 1]? = none ∧ res = none) ∨ ∃ c' q, d.kids[wayN d key + 1]? = some c' ∧ edg f l c' = some q ∧ res = some q) := by
    rcases hcase with ⟨q, rfl, _⟩ | h0
    ·simp [resB] at c80
    ·exact h0
   refine vc_skip ?_
   refine vc_then ?_
   refine vc_seq ?_
   refine vc_seq ?_
   refine vc_region ?_
   refine vp ?_
   first | refine vc_y (y_arith _ rfl (wrapNadd (by omega))) rfl ?_ | refine vc_y (y_arith _ rfl (wrap64 (by omega) (by omega))) rfl ?_ | refine vp ?_
   refine vp ?_
   refine vp ?_
   refine vc_y (y_fieldE fl_231_2 2 rfl rfl) rfl ?_
   refine vc_y (y_load1 1 rfl one_72 rfl (Rd.vis1 (Sl.vis) hh rfl)) rfl ?_
   refine vc_y (y_len Tryz.underlying72 rfl (by first | assumption | rfl)) rfl ?_
   refine vp ?_
   refine vc_nil ?_
   refine vc_then ?_
   first | refine vc_condP rfl (fun c90 => ?_) (fun c90 => ?_) | refine vc_condN rfl (fun c90 => ?_) (fun c90 => ?_) | refine vc_cond rfl (fun c90 => ?_) (fun c90 => ?_)
   ·skip
    rcases hcase2 with ⟨h0, _⟩ | ⟨c2, q, hc2, he2, rfl⟩
    ·have := List.getElem?_eq_none_iff.1 h0; omega
    refine vc_seq ?_
    refine vc_region ?_
    iterate 3 refine vp ?_
    refine vc_y (y_fieldE fl_231_2 2 rfl rfl) rfl ?_
    refine vc_y (y_load1 1 rfl one_72 rfl (Rd.vis1 (Sl.vis) hh rfl)) rfl ?_
    refine vp ?_
    first | refine vc_y (y_arith _ rfl (wrapNadd (by omega))) rfl ?_ | refine vc_y (y_arith _ rfl (wrap64 (by omega) (by omega))) rfl ?_ | refine vp ?_
    refine vc_y (y_elem 3 rfl (Nodes.visC hh hd) (wayN d key + 1) rfl (getLt hc2) sl_72 rfl rfl) rfl ?_
    refine vc_y (y_load1 3 rfl one_3 rfl (Rd.vis1 (Nodes.visC hh hd) hc2 rfl)) rfl ?_
    refine vc_callv ca_170 (us := []) (vs := []) rfl [_, _, _] rfl [0, 0, 0, 0] rfl (edge_spec hlen hR he2) rfl ?_
    rintro _ _ ⟨rfl, rfl⟩
    iterate 6 refine vp ?_
    refine vc_nil ?_
    refine vc_then ?_
    refine vc_ret ?_
    refine vc_thenRet ?_
    exact vc_end3 Tryz.results133 rfl rfl rfl _ (ent_pick [0, 0, 0, 0] rfl) ⟨rfl, rfl⟩
   ·skip
    obtain rfl : res = none := by
     rcases hcase2 with h0 | ⟨_, _, h0, _⟩
     ·exact h0.2
     ·have := getLt h0; omega
    refine vc_skip ?_
    refine vc_then ?_
    refine vc_seq ?_
    refine vc_region ?_
    iterate 3 refine vp ?_
    refine vc_nil ?_
    refine vc_then ?_
    refine vc_ret ?_
    exact vc_end3 Tryz.results133 rfl rfl rfl _ (ent_pick [0, 0, 0, 0] rfl) ⟨rfl, rfl⟩
theorem first_spec {b : Nat} {l : List Nd} {fr : List Nat} {r : Nat} {m : Int} {hl hf : SH} {hs : List Nd3} (hlen : hs.length = l.length) (hR : RiseAll l) (key : ByteArray) (above : Bool) : ∀ (f i : Nat) (res : Option (ByteArray × Int)), fstN f l i key above = some res →
  Does Tryz.prog 133 [.pointer (some ⟨b, 0, none⟩), .int .i64 (i : Int), .string key, .bool above] (TO b ⟨l, fr, some r, m⟩ hl hf hs) (fun v l' => v = resV res ∧ l' = TO b ⟨l, fr, some r, m⟩ hl hf hs)
 | 0, _, _, h => by simp [fstN] at h
 | f + 1, i, res, h => first_step hlen hR key above h (fun c r' h' => first_spec hlen hR key above f c r' h')
theorem seek_some {b : Nat} {l : List Nd} {fr : List Nat} {r : Nat} {m : Int} {hl hf : SH} {hs : List Nd3} (hlen : hs.length = l.length) (hR : RiseAll l) (key : ByteArray) {f : Nat} {res : Option (ByteArray × Int)} (hfs : fstN f l r key false = some res) :
  Does Tryz.prog 138 [.pointer (some ⟨b, 0, none⟩), .string key] (TO b ⟨l, fr, some r, m⟩ hl hf hs) (fun v l' => v = resV res ∧ l' = TO b ⟨l, fr, some r, m⟩ hl hf hs) := by
 refine spec_of Tryz.func138 rfl Tryz.ntmps138 Tryz.results138 _ (by simp) fun ι F => ?_
 refine vc_seq ?_
 refine vc_region ?_
 iterate 3 refine vp ?_
 refine vc_nil ?_
 refine vc_then ?_
 refine vc_seq ?_
 refine vc_seq ?_
 refine vc_region ?_
 refine vp ?_
 refine vc_callv ca_132 (us := []) (vs := []) rfl [_] rfl [0, 0, 0, 0] rfl (some_spec) rfl ?_
 rintro _ _ ⟨rfl, rfl⟩
 refine vp ?_
 refine vc_nil ?_
 refine vc_then ?_
 refine vc_condF rfl ?_
 refine vc_skip ?_
 refine vc_then ?_
 refine vc_seq ?_
 refine vc_region ?_
 iterate 3 refine vp ?_
 refine vc_y (y_fieldP fl_204_2 2 rfl rfl) rfl ?_
 refine vc_y (y_load1 0 rfl one_3 rfl (Pts.vis rfl)) rfl ?_
 refine vp ?_
 refine vc_callv ca_133 (us := []) (vs := []) rfl [_, _, _, _] rfl [0, 0, 0, 0] rfl (first_spec hlen hR key false f r res hfs) rfl ?_
 rintro _ _ ⟨rfl, rfl⟩
 iterate 6 refine vp ?_
 refine vc_nil ?_
 refine vc_then ?_
 refine vc_ret ?_
 exact vc_end3 Tryz.results138 rfl rfl rfl _ (ent_pick [0, 0, 0, 0] rfl) ⟨rfl, rfl⟩
theorem seek_none {b : Nat} {l : List Nd} {fr : List Nat} {m : Int} {hl hf : SH} {hs : List Nd3} (key : ByteArray) :
  Does Tryz.prog 138 [.pointer (some ⟨b, 0, none⟩), .string key] (TO b ⟨l, fr, none, m⟩ hl hf hs) (fun v l' => v = resV none ∧ l' = TO b ⟨l, fr, none, m⟩ hl hf hs) := by
 refine spec_of Tryz.func138 rfl Tryz.ntmps138 Tryz.results138 _ (by simp) fun ι F => ?_
 refine vc_seq ?_
 refine vc_region ?_
 iterate 3 refine vp ?_
 refine vc_nil ?_
 refine vc_then ?_
 refine vc_seq ?_
 refine vc_seq ?_
 refine vc_region ?_
 refine vp ?_
 refine vc_callv ca_132 (us := []) (vs := []) rfl [_] rfl [0, 0, 0, 0] rfl (some_spec) rfl ?_
 rintro _ _ ⟨rfl, rfl⟩
 refine vp ?_
 refine vc_nil ?_
 refine vc_then ?_
 refine vc_condT rfl ?_
 refine vc_seq ?_
 refine vc_region ?_
 iterate 3 refine vp ?_
 refine vc_nil ?_
 refine vc_then ?_
 refine vc_ret ?_
 refine vc_thenRet ?_
 exact vc_end3 Tryz.results138 rfl rfl rfl _ (ent_pick [0, 0, 0, 0] rfl) ⟨rfl, rfl⟩
theorem after_some {b : Nat} {l : List Nd} {fr : List Nat} {r : Nat} {m : Int} {hl hf : SH} {hs : List Nd3} (hlen : hs.length = l.length) (hR : RiseAll l) (key : ByteArray) {f : Nat} {res : Option (ByteArray × Int)} (hfs : fstN f l r key true = some res) :
  Does Tryz.prog 82 [.pointer (some ⟨b, 0, none⟩), .string key] (TO b ⟨l, fr, some r, m⟩ hl hf hs) (fun v l' => v = resV res ∧ l' = TO b ⟨l, fr, some r, m⟩ hl hf hs) := by
 refine spec_of Tryz.func82 rfl Tryz.ntmps82 Tryz.results82 _ (by simp) fun ι F => ?_
 refine vc_seq ?_
 refine vc_region ?_
 iterate 3 refine vp ?_
 refine vc_nil ?_
 refine vc_then ?_
 refine vc_seq ?_
 refine vc_seq ?_
 refine vc_region ?_
 refine vp ?_
 refine vc_callv ca_132 (us := []) (vs := []) rfl [_] rfl [0, 0, 0, 0] rfl (some_spec) rfl ?_
 rintro _ _ ⟨rfl, rfl⟩
 refine vp ?_
 refine vc_nil ?_
 refine vc_then ?_
 refine vc_condF rfl ?_
 refine vc_skip ?_
 refine vc_then ?_
 refine vc_seq ?_
 refine vc_region ?_
 iterate 3 refine vp ?_
 refine vc_y (y_fieldP fl_204_2 2 rfl rfl) rfl ?_
 refine vc_y (y_load1 0 rfl one_3 rfl (Pts.vis rfl)) rfl ?_
 refine vp ?_
 refine vc_callv ca_133 (us := []) (vs := []) rfl [_, _, _, _] rfl [0, 0, 0, 0] rfl (first_spec hlen hR key true f r res hfs) rfl ?_
 rintro _ _ ⟨rfl, rfl⟩
 iterate 6 refine vp ?_
 refine vc_nil ?_
 refine vc_then ?_
 refine vc_ret ?_
 exact vc_end3 Tryz.results82 rfl rfl rfl _ (ent_pick [0, 0, 0, 0] rfl) ⟨rfl, rfl⟩
theorem after_none {b : Nat} {l : List Nd} {fr : List Nat} {m : Int} {hl hf : SH} {hs : List Nd3} (key : ByteArray) :
  Does Tryz.prog 82 [.pointer (some ⟨b, 0, none⟩), .string key] (TO b ⟨l, fr, none, m⟩ hl hf hs) (fun v l' => v = resV none ∧ l' = TO b ⟨l, fr, none, m⟩ hl hf hs) := by
 refine spec_of Tryz.func82 rfl Tryz.ntmps82 Tryz.results82 _ (by simp) fun ι F => ?_
 refine vc_seq ?_
 refine vc_region ?_
 iterate 3 refine vp ?_
 refine vc_nil ?_
 refine vc_then ?_
 refine vc_seq ?_
 refine vc_seq ?_
 refine vc_region ?_
 refine vp ?_
 refine vc_callv ca_132 (us := []) (vs := []) rfl [_] rfl [0, 0, 0, 0] rfl (some_spec) rfl ?_
 rintro _ _ ⟨rfl, rfl⟩
 refine vp ?_
 refine vc_nil ?_
 refine vc_then ?_
 refine vc_condT rfl ?_
 refine vc_seq ?_
 refine vc_region ?_
 iterate 3 refine vp ?_
 refine vc_nil ?_
 refine vc_then ?_
 refine vc_ret ?_
 refine vc_thenRet ?_
 exact vc_end3 Tryz.results82 rfl rfl rfl _ (ent_pick [0, 0, 0, 0] rfl) ⟨rfl, rfl⟩
end Go.Proofs.YtcpbibdbahfgaaaGreat
namespace Go.Proofs.YtcpbibdbahfgaaaGreat
open Go.Eng
def NodesX (ho : List Nat) (hs : List Nd3) (ds : List Nd) : HP := bigs (fun i => if i ∈ ho then emp else nodeAt hs ds i) ds.length
theorem NodesX.nil {hs : List Nd3} {ds : List Nd} : NodesX [] hs ds = Nodes hs ds := by simp [NodesX, Nodes]
section
variable {ho : List Nat} {hs hs' : List Nd3} {ds ds' : List Nd} {i : Nat} {h : Nd3} {d : Nd}
theorem NodesX.out (hi : i ∉ ho) (e : hs[i]? = some h) (e' : ds[i]? = some d) : Ent (NodesX ho hs ds) (sep (NodeC h d) (NodesX (i :: ho) hs ds)) := by
 have hl := (List.getElem?_eq_some_iff.1 e').1
 have h1 := bigs_out (f := fun i => if i ∈ ho then emp else nodeAt hs ds i) hl
 simp only [hi, if_false, nodeAt_some e e'] at h1
 refine h1.trans (Ent.sep Ent.rfl ?_)
 unfold NodesX
 rw [bigs_congr (g := fun j => if j ∈ i :: ho then emp else nodeAt hs ds j) ?_]
 ·exact Ent.rfl
 ·intro j hj
  by_cases hji : j = i
  ·subst hji; simp [upd]
  ·simp [upd, hji]
theorem NodesX.into (hi : i ∉ ho) (e : hs'[i]? = some h) (e' : ds'[i]? = some d) (hl : ds'.length = ds.length) (hh : ∀ j, j ≠ i → j ∉ ho → hs'[j]? = hs[j]?) (hd : ∀ j, j ≠ i → j ∉ ho → ds'[j]? = ds[j]?) :
  Ent (sep (NodeC h d) (NodesX (i :: ho) hs ds)) (NodesX ho hs' ds') := by
 have hlt := (List.getElem?_eq_some_iff.1 e').1
 rw [hl] at hlt
 have h1 := bigs_in (f := fun j => if j ∈ i :: ho then emp else nodeAt hs ds j) (NodeC h d) hlt (by simp)
 refine h1.trans ?_
 unfold NodesX
 rw [hl, bigs_congr (g := fun j => if j ∈ ho then emp else nodeAt hs' ds' j) ?_]
 ·exact Ent.rfl
 ·intro j hj
  by_cases hji : j = i
  ·subst hji; simp [upd, hi, nodeAt_some e e']
  ·by_cases hjh : j ∈ ho
   ·simp [upd, hji, hjh]
   ·simp only [upd, hji, if_false, List.mem_cons, hjh, or_self]
    unfold nodeAt
    rw [hh j hji hjh, hd j hji hjh]
theorem NodesX.same (hl : ds'.length = ds.length) (hh : ∀ j, j ∉ ho → hs'[j]? = hs[j]?) (hd : ∀ j, j ∉ ho → ds'[j]? = ds[j]?) : Ent (NodesX ho hs ds) (NodesX ho hs' ds') := by
 unfold NodesX
 rw [hl, bigs_congr (g := fun j => if j ∈ ho then emp else nodeAt hs' ds' j) ?_]
 ·exact Ent.rfl
 ·intro j hj
  by_cases hjh : j ∈ ho
  ·simp [hjh]
  ·simp only [hjh, if_false]
   unfold nodeAt
   rw [hh j hjh, hd j hjh]
theorem NodesX.see (hi : i ∉ ho) (e : hs[i]? = some h) (e' : ds[i]? = some d) : Ent (NodesX ho hs ds) (NodeC h d) := (NodesX.out hi e e').trans Ent.left
theorem NodesX.visK (hi : i ∉ ho) (e : hs[i]? = some h) (e' : ds[i]? = some d) : Vis (NodesX ho hs ds) (Rd eStr h.k d.keys) := Sl.vis.ent ((NodesX.see hi e e').trans Ent.left)
theorem NodesX.visN (hi : i ∉ ho) (e : hs[i]? = some h) (e' : ds[i]? = some d) : Vis (NodesX ho hs ds) (Rd eInt h.n d.nums) := Sl.vis.ent ((NodesX.see hi e e').trans (Ent.right.trans Ent.left))
theorem NodesX.visC (hi : i ∉ ho) (e : hs[i]? = some h) (e' : ds[i]? = some d) : Vis (NodesX ho hs ds) (Rd eNat h.c d.kids) := Sl.vis.ent ((NodesX.see hi e e').trans (Ent.right.trans Ent.right))
theorem Nodes.set (hlen : hs.length = ds.length) (hi : i < ds.length) : Ent (sep (NodeC h d) (Nodes hs ds)) (Nodes (hs.set i h) (ds.set i d)) := by
 obtain ⟨h0, e⟩ : ∃ h0, hs[i]? = some h0 := ⟨_, List.getElem?_eq_getElem (by omega)⟩
 obtain ⟨d0, e'⟩ : ∃ d0, ds[i]? = some d0 := ⟨_, List.getElem?_eq_getElem hi⟩
 rw [← NodesX.nil, ← NodesX.nil]
 refine (Ent.sep Ent.rfl ((NodesX.out (ho := []) (by simp) e e').trans Ent.right)).trans ?_
 exact NodesX.into (ho := []) (i := i) List.not_mem_nil (by rw [List.getElem?_set_self (by omega)]) (by rw [List.getElem?_set_self hi]) List.length_set (fun j hj _ => by rw [List.getElem?_set_ne (Ne.symm hj)]) (fun j hj _ => by rw [List.getElem?_set_ne (Ne.symm hj)])
theorem Nodes.push (hlen : hs.length = ds.length) : Ent (sep (NodeC h d) (Nodes hs ds)) (Nodes (hs ++ [h]) (ds ++ [d])) := by
 have e1 : nodeAt (hs ++ [h]) (ds ++ [d]) ds.length = NodeC h d := nodeAt_some (by rw [List.getElem?_append_right (by omega)]; simp [hlen]) (by rw [List.getElem?_append_right (by omega)]; simp)
 have e2 : bigs (nodeAt (hs ++ [h]) (ds ++ [d])) ds.length = bigs (nodeAt hs ds) ds.length := bigs_congr fun j hj => by
  unfold nodeAt
  rw [List.getElem?_append_left (by omega), List.getElem?_append_left hj]
 unfold Nodes
 rw [List.length_append, List.length_singleton]
 show Ent _ (sep (nodeAt (hs ++ [h]) (ds ++ [d]) ds.length) (bigs (nodeAt (hs ++ [h]) (ds ++ [d])) ds.length))
 rw [e1, e2]
 exact Ent.rfl
end
def nd0 : Nd := ⟨[], [], []⟩
def nil3 : Nd3 := ⟨nilS, nilS, nilS⟩
theorem NodeC.nil : Ent emp (NodeC nil3 nd0) := by
 unfold NodeC
 exact Ent.empL.trans (Ent.sep Sl.nil (Ent.empL.trans (Ent.sep Sl.nil Sl.nil)))
structure Good (d : Nd) : Prop where
 rise : Rise d.keys
 k : d.keys.length ≤ 1000
 n : d.nums.length ≤ 1000
 c : d.kids.length ≤ 1000
inductive AddR (l : List Nd) (fr : List Nat) (x : Nd) : Nat → List Nd → List Nat → Prop
 | old (fr0 : List Nat) (i : Nat) (hf : fr = fr0 ++ [i]) (hi : i < l.length) (hb : fr.length ≤ 1000000) : AddR l fr x i (l.set i x) fr0
 | new (hf : fr = []) (hb : l.length ≤ 1000000) : AddR l fr x l.length (l ++ [x]) []
def cutL (d : Nd) : Nd := if d.kids = [] then ⟨d.keys.take (d.keys.length / 2), d.nums.take (d.keys.length / 2), []⟩ else ⟨d.keys.take (d.kids.length / 2 - 1), d.nums, d.kids.take (d.kids.length / 2)⟩
def cutR (d : Nd) : Nd := if d.kids = [] then ⟨d.keys.drop (d.keys.length / 2), d.nums.drop (d.keys.length / 2), []⟩ else ⟨d.keys.drop (d.kids.length / 2), [], d.kids.drop (d.kids.length / 2)⟩
def cutK (d : Nd) : Nat := if d.kids = [] then d.keys.length / 2 else d.kids.length / 2 - 1
structure SplitR (l : List Nd) (fr : List Nat) (i k : Nat) (s : ByteArray) (l' : List Nd) (fr' : List Nat) : Prop where
 ok : ∃ d l1, l[i]? = some d ∧ Good d ∧ d.keys[cutK d]? = some s ∧ (d.kids = [] → d.nums.length = d.keys.length) ∧ (d.kids ≠ [] → 2 ≤ d.kids.length ∧ d.kids.length ≤ d.keys.length + 1) ∧ AddR l fr (cutR d) k l1 fr' ∧ k ≠ i ∧ l' = l1.set i (cutL d)
def insL (d : Nd) (key : ByteArray) (n : Int) : Nd := ⟨d.keys.take (lb d.keys key) ++ key :: d.keys.drop (lb d.keys key), d.nums.take (lb d.keys key) ++ n :: d.nums.drop (lb d.keys key), d.kids⟩
def insK (d : Nd) (w : Nat) (s : ByteArray) (k : Nat) : Nd := ⟨d.keys.take w ++ s :: d.keys.drop w, d.nums, d.kids.take (w + 1) ++ k :: d.kids.drop (w + 1)⟩
inductive PutR (key : ByteArray) (n : Int) : Nat → List Nd → List Nat → Nat → List Nd → List Nat → Prop
 | leaf {f : Nat} {l : List Nd} {fr : List Nat} {i : Nat} (d : Nd) (hd : l[i]? = some d) (hg : Good d) (hk : d.kids = []) (hn : d.nums.length = d.keys.length) : PutR key n (f + 1) l fr i (l.set i (insL d key n)) fr
 | deep {f : Nat} {l l1 : List Nd} {fr fr1 : List Nat} {i : Nat} (d dc : Nd) (c : Nat) (hd : l[i]? = some d) (hg : Good d) (hk : d.kids ≠ []) (hc : d.kids[wayN d key]? = some c) (hp : PutR key n f l fr c l1 fr1) (hdc : l1[c]? = some dc) (hgc : Good dc) (hs : sizeN dc ≤ 4) : PutR key n (f + 1) l fr i l1 fr1
 | split {f : Nat} {l l1 l2 : List Nd} {fr fr1 fr2 : List Nat} {i : Nat} (d dc d2 : Nd) (c k : Nat) (s : ByteArray) (hd : l[i]? = some d) (hg : Good d) (hk : d.kids ≠ []) (hc : d.kids[wayN d key]? = some c) (hp : PutR key n f l fr c l1 fr1) (hdc : l1[c]? = some dc) (hgc : Good dc) (hs : 4 < sizeN dc)
   (hsp : SplitR l1 fr1 c k s l2 fr2) (hd2 : l2[i]? = some d2) (hg2 : Good d2) (hw : wayN d key ≤ d2.keys.length) (hw2 : wayN d key + 1 ≤ d2.kids.length) : PutR key n (f + 1) l fr i (l2.set i (insK d2 (wayN d key) s k)) fr2
def delL (d : Nd) (key : ByteArray) : Nd := ⟨d.keys.take (lb d.keys key) ++ d.keys.drop (lb d.keys key + 1), d.nums.take (lb d.keys key) ++ d.nums.drop (lb d.keys key + 1), d.kids⟩
def joinA (da db : Nd) (s : ByteArray) : Nd := ⟨(if da.kids = [] then da.keys else da.keys ++ [s]) ++ db.keys, da.nums ++ db.nums, da.kids ++ db.kids⟩
def joinX (d : Nd) (w : Nat) : Nd := ⟨d.keys.take (w - 1) ++ d.keys.drop w, d.nums, d.kids.take w ++ d.kids.drop (w + 1)⟩
def allK (da db : Nd) (s : ByteArray) : List ByteArray := (if da.kids = [] then da.keys else da.keys ++ [s]) ++ db.keys
def partH (da db : Nd) : Nat := (sizeN da + sizeN db) / 2
def partA (da db : Nd) (s : ByteArray) : Nd := if da.kids = [] then ⟨(allK da db s).take (partH da db), (da.nums ++ db.nums).take (partH da db), []⟩ else ⟨(allK da db s).take (partH da db - 1), [], (da.kids ++ db.kids).take (partH da db)⟩
def partB (da db : Nd) (s : ByteArray) : Nd := if da.kids = [] then ⟨(allK da db s).drop (partH da db), (da.nums ++ db.nums).drop (partH da db), []⟩ else ⟨(allK da db s).drop (partH da db), [], (da.kids ++ db.kids).drop (partH da db)⟩
def partK (da db : Nd) : Nat := if da.kids = [] then partH da db else partH da db - 1
structure MendC (l : List Nd) (x w : Nat) (d da db : Nd) (a b : Nat) (s : ByteArray) : Prop where
 hd : l[x]? = some d
 hg : Good d
 ha : d.kids[w - 1]? = some a
 hb : d.kids[w]? = some b
 hda : l[a]? = some da
 hdb : l[b]? = some db
 hga : Good da
 hgb : Good db
 hw : 1 ≤ w
 hs : d.keys[w - 1]? = some s
 hxa : x ≠ a
 hxb : x ≠ b
 hab : a ≠ b
inductive MendR (l : List Nd) (fr : List Nat) (x w : Nat) : List Nd → List Nat → Prop
 | join (d da db : Nd) (a b : Nat) (s : ByteArray) (h : MendC l x w d da db a b s) (hs : sizeN da + sizeN db ≤ 4) (hb : fr.length ≤ 1000000) : MendR l fr x w (((l.set a (joinA da db s)).set x (joinX d w)).set b nd0) (fr ++ [b])
 | part (d da db : Nd) (a b : Nat) (s t : ByteArray) (h : MendC l x w d da db a b s) (hs : 4 < sizeN da + sizeN db) (ht : (allK da db s)[partK da db]? = some t) (hl : da.kids = [] → db.kids = [] ∧ da.nums.length = da.keys.length ∧ db.nums.length = db.keys.length) (hn : da.kids ≠ [] → db.kids ≠ [] ∧ da.kids.length = da.keys.length + 1 ∧ db.kids.length = db.keys.length + 1) :
   MendR l fr x w (((l.set a (partA da db s)).set b (partB da db s)).set x ⟨d.keys.set (w - 1) t, d.nums, d.kids⟩) fr
inductive DelR (key : ByteArray) : Nat → List Nd → List Nat → Nat → List Nd → List Nat → Prop
 | leaf {f : Nat} {l : List Nd} {fr : List Nat} {i : Nat} (d : Nd) (hd : l[i]? = some d) (hg : Good d) (hk : d.kids = []) (hn : d.nums.length = d.keys.length) (hf : lb d.keys key < d.keys.length) : DelR key (f + 1) l fr i (l.set i (delL d key)) fr
 | deep {f : Nat} {l l1 : List Nd} {fr fr1 : List Nat} {i : Nat} (d dc : Nd) (c : Nat) (hd : l[i]? = some d) (hg : Good d) (hk : d.kids ≠ []) (hc : d.kids[wayN d key]? = some c) (hp : DelR key f l fr c l1 fr1) (hd1 : l1[i]? = some d) (hdc : l1[c]? = some dc) (hgc : Good dc) (hs : 2 ≤ sizeN dc) (hb : fr1.length ≤ 1000000) : DelR key (f + 1) l fr i l1 fr1
 | mend {f : Nat} {l l1 l2 : List Nd} {fr fr1 fr2 : List Nat} {i : Nat} (d dc : Nd) (c : Nat) (hd : l[i]? = some d) (hg : Good d) (hk : d.kids ≠ []) (hc : d.kids[wayN d key]? = some c) (hp : DelR key f l fr c l1 fr1) (hd1 : l1[i]? = some d) (hdc : l1[c]? = some dc) (hgc : Good dc) (hs : sizeN dc < 2) (hb : fr1.length ≤ 1000000)
   (hm : MendR l1 fr1 i (max (wayN d key) 1) l2 fr2) : DelR key (f + 1) l fr i l2 fr2
section
variable {P : Program} {ι : Io} {F : HP} {n : Nat} {ρ : List (Nat × Value)} {l : List HP} {K : Act → World → Prop}
theorem vc_openX (p : Nat) {ho : List Nat} {hs : List Nd3} {ds : List Nd} {i : Nat} {h : Nd3} {d : Nd} (hA : nth l p = some (NodesX ho hs ds)) (hi : i ∉ ho) (e : hs[i]? = some h) (e' : ds[i]? = some d)
  (g : VC ι F n K ρ (Sl eStr h.k d.keys :: Sl eInt h.n d.nums :: Sl eNat h.c d.kids :: NodesX (i :: ho) hs ds :: del l p)) : VC ι F n K ρ l := by
 refine vc_ent ((Ent.out hA).trans ?_) g
 refine (Ent.sep (NodesX.out hi e e') Ent.rfl).trans (Ent.assoc.trans ?_)
 unfold NodeC
 refine Ent.assoc.trans (Ent.sep Ent.rfl (Ent.assoc.trans (Ent.sep Ent.rfl Ent.rfl)))
theorem vc_openN (p : Nat) {hs : List Nd3} {ds : List Nd} {i : Nat} {h : Nd3} {d : Nd} (hA : nth l p = some (Nodes hs ds)) (e : hs[i]? = some h) (e' : ds[i]? = some d)
  (g : VC ι F n K ρ (Sl eStr h.k d.keys :: Sl eInt h.n d.nums :: Sl eNat h.c d.kids :: NodesX [i] hs ds :: del l p)) : VC ι F n K ρ l :=
 vc_openX p (ho := []) (by rw [hA, NodesX.nil]) (by simp) e e' g
theorem ent_closeX {ho : List Nat} {hs hs' : List Nd3} {ds ds' : List Nd} {i : Nat} (h : Nd3) (d : Nd) {r : List HP} (hi : i ∉ ho) (e : hs'[i]? = some h) (e' : ds'[i]? = some d) (hl : ds'.length = ds.length) (hh : ∀ j, j ≠ i → j ∉ ho → hs'[j]? = hs[j]?) (hd : ∀ j, j ≠ i → j ∉ ho → ds'[j]? = ds[j]?) :
  Ent (seps (Sl eStr h.k d.keys :: Sl eInt h.n d.nums :: Sl eNat h.c d.kids :: NodesX (i :: ho) hs ds :: r)) (seps (NodesX ho hs' ds' :: r)) := by
 refine Ent.trans ?_ (Ent.sep (NodesX.into hi e e' hl hh hd) (Ent.rfl (A := seps r)))
 unfold NodeC
 exact (Ent.sep Ent.rfl Ent.assoc').trans (Ent.assoc'.trans Ent.assoc')
theorem ent_closeN {hs hs' : List Nd3} {ds ds' : List Nd} {i : Nat} (h : Nd3) (d : Nd) {r : List HP} (e : hs'[i]? = some h) (e' : ds'[i]? = some d) (hl : ds'.length = ds.length) (hh : ∀ j, j ≠ i → hs'[j]? = hs[j]?) (hd : ∀ j, j ≠ i → ds'[j]? = ds[j]?) :
  Ent (seps (Sl eStr h.k d.keys :: Sl eInt h.n d.nums :: Sl eNat h.c d.kids :: NodesX [i] hs ds :: r)) (seps (Nodes hs' ds' :: r)) := by
 rw [← NodesX.nil (hs := hs') (ds := ds')]
 exact ent_closeX h d (by simp) e e' hl (fun j hj _ => hh j hj) (fun j hj _ => hd j hj)
theorem ent_at {l : List HP} (is : List Nat) {s r : List HP} (h : pick is l = some (s, r)) {m : List HP} (e : Ent (seps s) (seps m)) : Ent (seps l) (seps m) := (ent_pick is h).trans e
theorem ent_cons {A : HP} {l m : List HP} (e : Ent (seps l) (seps m)) : Ent (seps (A :: l)) (seps (A :: m)) := Ent.sep Ent.rfl e
theorem ent_head {A B : HP} {l : List HP} (e : Ent A B) : Ent (seps (A :: l)) (seps (B :: l)) := Ent.sep e Ent.rfl
theorem ent_two {A B C : HP} {l : List HP} (e : Ent (sep A B) C) : Ent (seps (A :: B :: l)) (seps (C :: l)) := Ent.assoc'.trans (Ent.sep e Ent.rfl)
theorem ent_node {h : Nd3} {d : Nd} {A : HP} {r : List HP} : Ent (seps (Sl eStr h.k d.keys :: Sl eInt h.n d.nums :: Sl eNat h.c d.kids :: A :: r)) (sep (sep (NodeC h d) A) (seps r)) :=
 (Ent.sep Ent.rfl Ent.assoc').trans (Ent.assoc'.trans Ent.assoc')
end
theorem size_specD {A : HP} {ad : Addr} {h : Nd3} {d : Nd} (hk : Vis A (fun w => w.cell? (ad.add 0) = some h.k.v)) (hc : Vis A (fun w => w.cell? (ad.add 2) = some h.c.v)) (e1 : h.k.len = d.keys.length) (e2 : h.c.len = d.kids.length) :
  Does Tryz.prog 166 [.pointer (some ad)] [A] (fun v l => v = .int .i64 (sizeN d : Int) ∧ l = [A]) :=
 (size_spec hk hc).imp fun v l ⟨a, b⟩ => ⟨by rw [a, e1, e2]; unfold sizeN leafN; cases d.kids <;> simp, b⟩
theorem leaf_specD {A : HP} {ad : Addr} {h : Nd3} {d : Nd} (hc : Vis A (fun w => w.cell? (ad.add 2) = some h.c.v)) (e2 : h.c.len = d.kids.length) :
  Does Tryz.prog 163 [.pointer (some ad)] [A] (fun v l => v = .bool (decide (d.kids = [])) ∧ l = [A]) :=
 (leaf_spec hc).imp fun v l ⟨a, b⟩ => ⟨by rw [a, e2]; congr 1; cases d.kids <;> simp; omega, b⟩
theorem half {m : Nat} (h : m ≤ 1000000) : IntKind.i64.wrap ((m : Int).tdiv 2) = ((m / 2 : Nat) : Int) := by
 have : (m : Int).tdiv 2 = ((m / 2 : Nat) : Int) := by
  rw [Int.tdiv_eq_ediv_of_nonneg (by omega)]; omega
 rw [this]; exact wrap64 (by omega) (by omega)
end Go.Proofs.YtcpbibdbahfgaaaGreat
namespace Go.Proofs.YtcpbibdbahfgaaaGreat
open Go.Eng
abbrev Con := List (ByteArray × Int)
structure Kid where
 i : Nat
 m : Con
 fp : List Nat
def allM (cs : List Kid) : Con := cs.flatMap Kid.m
def allF (cs : List Kid) : List Nat := cs.flatMap Kid.fp
def Seps : List ByteArray → List Kid → Prop
 | [], [_] => True
 | k :: q, c :: c' :: cs => (∀ x ∈ ks c.m, sLt x k = true) ∧ (∀ x ∈ ks (allM (c' :: cs)), sLt x k = false) ∧ Seps q (c' :: cs)
 | _, _ => False
def Rep : Nat → List Nd → Nat → Con → List Nat → Nat → Prop
 | 0, l, i, m, fp, z => ∃ d, l[i]? = some d ∧ d.kids = [] ∧ d.nums.length = d.keys.length ∧ m = d.keys.zip d.nums ∧ fp = [i] ∧ z = d.keys.length
 | h + 1, l, i, m, fp, z => ∃ d cs, l[i]? = some d ∧ d.kids = cs.map Kid.i ∧ d.nums = [] ∧ m = allM cs ∧ fp = i :: allF cs ∧ z = cs.length ∧ Seps d.keys cs ∧ ∀ c ∈ cs, ∃ y, 2 ≤ y ∧ y ≤ 4 ∧ Rep h l c.i c.m c.fp y
theorem Rep.frame {l l' : List Nd} : ∀ {h i : Nat} {m : Con} {fp : List Nat} {z : Nat}, Rep h l i m fp z → (∀ j ∈ fp, l'[j]? = l[j]?) → Rep h l' i m fp z
 | 0, i, m, fp, z, ⟨d, h1, h2, h3, h4, h5, h6⟩, hf => ⟨d, by rw [hf i (by rw [h5]; simp)]; exact h1, h2, h3, h4, h5, h6⟩
 | h + 1, i, m, fp, z, ⟨d, cs, h1, h2, h3, h4, h5, h6, h7, h8⟩, hf => ⟨d, cs, by rw [hf i (by rw [h5]; simp)]; exact h1, h2, h3, h4, h5, h6, h7, fun c hc => by
   obtain ⟨y, y1, y2, y3⟩ := h8 c hc
   exact ⟨y, y1, y2, y3.frame fun j hj => hf j (by rw [h5]; exact List.mem_cons_of_mem _ (List.mem_flatMap.2 ⟨c, hc, hj⟩))⟩⟩
theorem Rep.top {l : List Nd} {h i : Nat} {m : Con} {fp : List Nat} {z : Nat} (r : Rep h l i m fp z) : i ∈ fp := by
 cases h with
 | zero => obtain ⟨d, h1, h2, h3, h4, h5, h6⟩ := r; rw [h5]; simp
 | succ h => obtain ⟨d, cs, h1, h2, h3, h4, h5, h6⟩ := r; rw [h5]; simp
theorem Seps.len : ∀ {q : List ByteArray} {cs : List Kid}, Seps q cs → cs.length = q.length + 1
 | [], [_], _ => rfl
 | k :: q, c :: c' :: cs, h => by
  have := Seps.len h.2.2
  simp only [List.length_cons] at this ⊢; omega
theorem Rep.size {l : List Nd} {h i : Nat} {m : Con} {fp : List Nat} {z : Nat} (r : Rep h l i m fp z) : ∃ d, l[i]? = some d ∧ sizeN d = z := by
 cases h with
 | zero => obtain ⟨d, h1, h2, h3, h4, h5, h6⟩ := r; exact ⟨d, h1, by simp [sizeN, leafN, h2, h6]⟩
 | succ h =>
  obtain ⟨d, cs, h1, h2, h3, h4, h5, h6, h7, h8⟩ := r
  refine ⟨d, h1, ?_⟩
  have := h7.len
  have hne : d.kids.length = cs.length := by rw [h2]; simp
  unfold sizeN leafN
  cases hk : d.kids with
  | nil => rw [hk] at hne; simp at hne; omega
  | cons a q => rw [← hk]; simp [hk] at *; omega
theorem Rep.ne {l : List Nd} : ∀ {h i : Nat} {m : Con} {fp : List Nat} {z : Nat}, Rep h l i m fp z → 1 ≤ z → m ≠ []
 | 0, i, m, fp, z, ⟨d, h1, h2, h3, h4, h5, h6⟩, hz => by
  intro hm
  have : m.length = d.keys.length := by rw [h4]; simp [h3]
  rw [hm] at this; simp at this; omega
 | h + 1, i, m, fp, z, ⟨d, cs, h1, h2, h3, h4, h5, h6, h7, h8⟩, hz => by
  cases cs with
  | nil => simp at h6; omega
  | cons c cs =>
   obtain ⟨y, y1, y2, y3⟩ := h8 c (by simp)
   intro hm
   rw [h4] at hm
   simp [allM] at hm
   exact y3.ne (by omega) hm.1
def way (q : List ByteArray) (key : ByteArray) : Nat := if fnd q key then lb q key + 1 else lb q key
theorem wayN_eq (d : Nd) (key : ByteArray) : wayN d key = way d.keys key := rfl
theorem le_lt {a b c : ByteArray} (h : sLt b a = false) (h' : sLt a c = false) (hb : sLt c b = false) : sLt c a = false := by
 cases hq : sLt c a with
 | false => rfl
 | true =>
  rcases not_sLt h with e | e
  ·subst e; rw [hq] at hb; cases hb
  ·rw [sLt_trans hq e] at hb; cases hb
theorem lt_le {a b c : ByteArray} (h : sLt a b = true) (h' : sLt c b = false) : sLt a c = true := by
 rcases not_sLt h' with e | e
 ·subst e; exact h
 ·exact sLt_trans h e
theorem le_lt' {a b c : ByteArray} (h : sLt b a = false) (h' : sLt b c = true) : sLt a c = true := by
 rcases not_sLt h with e | e
 ·subst e; exact h'
 ·exact sLt_trans e h'
theorem way_lt {k key : ByteArray} {q : List ByteArray} (h : sLt key k = true) : way (k :: q) key = 0 := by
 have h0 := sLt_asymm h
 have hne : sEq k key = false := sEq_false.2 fun e => sLt_ne h e.symm
 simp [way, fnd, lb, h0, hne]
theorem way_ge {k key : ByteArray} {q : List ByteArray} (hr : Rise (k :: q)) (h : sLt key k = false) : way (k :: q) key = way q key + 1 := by
 rcases not_sLt h with e | e
 ·subst e
  have hz : lb q key = 0 := lb_zero fun x hx => sLt_asymm (hr.1 x hx)
  have hf : fnd q key = false := by
   cases hq : fnd q key with
   | false => rfl
   | true => have := hr.1 key ((fnd_iff hr.2).1 hq); rw [sLt_irrefl] at this; cases this
  simp [way, fnd, lb, sLt_irrefl, sEq_self] at hf hz ⊢
  simp [hz] at hf ⊢
  simp [hf]
 ·have h1 : lb (k :: q) key = lb q key + 1 := by simp [lb, e]
  have h2 : fnd (k :: q) key = fnd q key := by simp [fnd, h1]
  unfold way
  rw [h1, h2]
  cases fnd q key <;> simp
theorem way_split {key : ByteArray} : ∀ {q : List ByteArray} {cs : List Kid}, Seps q cs → Rise q → ∃ A c B, cs = A ++ c :: B ∧ A.length = way q key ∧ (∀ x ∈ ks (allM A), sLt x key = true) ∧ (∀ x ∈ ks (allM B), sLt key x = true)
 | [], [c], _, _ => ⟨[], c, [], rfl, rfl, by simp [allM, ks], by simp [allM, ks]⟩
 | k :: q, c :: c' :: cs, h, hr => by
  cases hk : sLt key k with
  | true => exact ⟨[], c, c' :: cs, rfl, (way_lt hk).symm, by simp [allM, ks], fun x hx => lt_le hk (h.2.1 x hx)⟩
  | false =>
   obtain ⟨A, c0, B, e1, e2, e3, e4⟩ := way_split (key := key) h.2.2 hr.2
   refine ⟨c :: A, c0, B, by rw [e1]; rfl, by rw [way_ge hr hk, ← e2]; rfl, fun x hx => ?_, e4⟩
   simp only [allM, List.flatMap_cons, ks_append, List.mem_append] at hx
   rcases hx with hx | hx
   ·exact lt_le (h.1 x hx) hk
   ·exact e3 x hx
theorem Seps.rise : ∀ {q : List ByteArray} {cs : List Kid}, Seps q cs → (∀ c ∈ cs, c.m ≠ []) → Rise q
 | [], [c], _, _ => trivial
 | k :: q, c :: c' :: cs, h, hne => by
  have ih := Seps.rise h.2.2 (fun c hc => hne c (List.mem_cons_of_mem _ hc))
  refine ⟨fun b hb => ?_, ih⟩
  cases q with
  | nil => cases hb
  | cons k' q' =>
   have hk' : sLt k k' = true := by
    cases cs with
    | nil => exact h.2.2.elim
    | cons c2 cs2 =>
     obtain ⟨x, hx⟩ := List.exists_mem_of_ne_nil _ (hne c' (by simp))
     have hx' : x.1 ∈ ks c'.m := List.mem_map.2 ⟨x, hx, rfl⟩
     have h1 := h.2.1 x.1 (by simp only [allM, List.flatMap_cons, ks_append, List.mem_append]; exact .inl hx')
     exact le_lt' h1 (h.2.2.1 x.1 hx')
   rcases List.mem_cons.1 hb with rfl | hb
   ·exact hk'
   ·exact sLt_trans hk' (ih.1 b hb)
theorem allM_split {A B : List Kid} {c : Kid} : allM (A ++ c :: B) = allM A ++ (c.m ++ allM B) := by simp [allM]
theorem rise_sub {A M B : Con} (h : Rise (ks (A ++ (M ++ B)))) : Rise (ks M) := by
 rw [ks_append, ks_append] at h
 exact (rise_append.1 (rise_append.1 h).2.1).1
theorem Rep.dsc {l : List Nd} {key : ByteArray} : ∀ {h i : Nat} {m : Con} {fp : List Nat} {z : Nat}, Rep h l i m fp z → Rise (ks m) →
  ∃ jl d A B, Proofs.YtcpbibdbahfgaaaGreat.dsc (h + 1) l i key = some jl ∧ l[jl]? = some d ∧ d.kids = [] ∧ d.nums.length = d.keys.length ∧ m = A ++ (d.keys.zip d.nums ++ B) ∧ (∀ x ∈ ks A, sLt x key = true) ∧ (∀ x ∈ ks B, sLt key x = true)
 | 0, i, m, fp, z, ⟨d, h1, h2, h3, h4, h5, h6⟩, hr => ⟨i, d, [], [], by simp [Proofs.YtcpbibdbahfgaaaGreat.dsc, h1, h2], h1, h2, h3, by simp [h4], by simp [ks], by simp [ks]⟩
 | h + 1, i, m, fp, z, ⟨d, cs, h1, h2, h3, h4, h5, h6, h7, h8⟩, hr => by
  obtain ⟨A, c, B, e1, e2, e3, e4⟩ := way_split (key := key) h7 (h7.rise fun c hc => by obtain ⟨y, y1, y2, y3⟩ := h8 c hc; exact y3.ne (by omega))
  obtain ⟨y, y1, y2, y3⟩ := h8 c (by rw [e1]; simp)
  rw [h4, e1, allM_split] at hr
  obtain ⟨jl, d', A', B', f1, f2, f3, f4, f5, f6, f7⟩ := y3.dsc (key := key) (rise_sub hr)
  have hk : d.kids[wayN d key]? = some c.i := by
   rw [h2, wayN_eq, ← e2, e1]; simp
  have hne : d.kids ≠ [] := fun h0 => by rw [h0] at hk; simp at hk
  refine ⟨jl, d', allM A ++ A', B' ++ allM B, ?_, f2, f3, f4, by rw [h4, e1, allM_split, f5]; simp, ?_, ?_⟩
  ·show (match l[i]? with | none => none | some d => if d.kids = [] then some i else match d.kids[wayN d key]? with | none => none | some c => Proofs.YtcpbibdbahfgaaaGreat.dsc (h + 1) l c key) = _
   rw [h1]; simp only [hne, if_false, hk]; exact f1
  ·intro x hx
   rw [ks_append, List.mem_append] at hx
   exact hx.elim (e3 x) (f6 x)
  ·intro x hx
   rw [ks_append, List.mem_append] at hx
   exact hx.elim (f7 x) (e4 x)
theorem Rep.edg {l : List Nd} : ∀ {h i : Nat} {m : Con} {fp : List Nat} {z : Nat}, Rep h l i m fp z → 1 ≤ z → ∃ q, Proofs.YtcpbibdbahfgaaaGreat.edg (h + 1) l i = some q ∧ m[0]? = some q
 | 0, i, m, fp, z, ⟨d, h1, h2, h3, h4, h5, h6⟩, hz => by
  have hk : d.keys[0]? = some d.keys[0] := List.getElem?_eq_getElem (by omega)
  have hn : d.nums[0]? = some d.nums[0] := List.getElem?_eq_getElem (by omega)
  refine ⟨(d.keys[0], d.nums[0]), by simp [Proofs.YtcpbibdbahfgaaaGreat.edg, h1, h2, hk, hn], ?_⟩
  rw [h4, List.getElem?_eq_getElem (by simp; omega)]; simp
 | h + 1, i, m, fp, z, ⟨d, cs, h1, h2, h3, h4, h5, h6, h7, h8⟩, hz => by
  cases cs with
  | nil => simp at h6; omega
  | cons c cs =>
   obtain ⟨y, y1, y2, y3⟩ := h8 c (by simp)
   obtain ⟨q, e1, e2⟩ := y3.edg (by omega)
   have hk : d.kids[0]? = some c.i := by rw [h2]; rfl
   have hne : d.kids ≠ [] := fun h0 => by rw [h0] at hk; simp at hk
   refine ⟨q, ?_, ?_⟩
   ·show (match l[i]? with | none => none | some d => if d.kids = [] then (match d.keys[0]?, d.nums[0]? with | some k, some n => some (k, n) | _, _ => none) else match d.kids[0]? with | none => none | some c => Proofs.YtcpbibdbahfgaaaGreat.edg (h + 1) l c) = _
    rw [h1]; simp only [hne, if_false, hk]; exact e1
   ·rw [h4]
    simp only [allM, List.flatMap_cons]
    rw [List.getElem?_append_left (getLt e2)]; exact e2
theorem nxt_zip {d : Nd} {key : ByteArray} {ab : Bool} (h : d.nums.length = d.keys.length) : nxt (d.keys.zip d.nums) key ab = (d.keys.zip d.nums)[fst1 ab d key]? := by
 unfold nxt fst1
 rw [ks_zip h]
theorem Rep.fst {l : List Nd} {key : ByteArray} {ab : Bool} : ∀ {h i : Nat} {m : Con} {fp : List Nat} {z : Nat}, Rep h l i m fp z → Rise (ks m) → fstN (h + 1) l i key ab = some (nxt m key ab)
 | 0, i, m, fp, z, ⟨d, h1, h2, h3, h4, h5, h6⟩, hr => by
  rw [h4, nxt_zip h3]
  simp only [fstN, h1, h2, if_true]
  by_cases hl : d.keys.length ≤ fst1 ab d key
  ·rw [if_pos hl, List.getElem?_eq_none (by simp; omega)]
  ·rw [if_neg hl, List.getElem?_eq_getElem (l := d.keys) (by omega), List.getElem?_eq_getElem (l := d.nums) (by omega), List.getElem?_eq_getElem (by simp; omega)]
   simp
 | h + 1, i, m, fp, z, ⟨d, cs, h1, h2, h3, h4, h5, h6, h7, h8⟩, hr => by
  obtain ⟨A, c, B, e1, e2, e3, e4⟩ := way_split (key := key) h7 (h7.rise fun c hc => by obtain ⟨y, y1, y2, y3⟩ := h8 c hc; exact y3.ne (by omega))
  obtain ⟨y, y1, y2, y3⟩ := h8 c (by rw [e1]; simp)
  rw [h4, e1, allM_split] at hr ⊢
  have ih := y3.fst (key := key) (ab := ab) (rise_sub hr)
  have hk : d.kids[wayN d key]? = some c.i := by rw [h2, wayN_eq, ← e2, e1]; simp
  have hne : d.kids ≠ [] := fun h0 => by rw [h0] at hk; simp at hk
  rw [nxt_mid e3 e4]
  show (match l[i]? with
   | none => none
   | some d =>
    if d.kids = [] then
     if d.keys.length ≤ fst1 ab d key then some none
     else match d.keys[fst1 ab d key]?, d.nums[fst1 ab d key]? with
      | some k, some n => some (some (k, n))
      | _, _ => none
    else match d.kids[wayN d key]? with
     | none => none
     | some c => match fstN (h + 1) l c key ab with
      | none => none
      | some (some r) => some (some r)
      | some none => match d.kids[wayN d key + 1]? with
       | none => some none
       | some c' => (Proofs.YtcpbibdbahfgaaaGreat.edg (h + 1) l c').map some) = _
  rw [h1]
  simp only [hne, if_false, hk, ih]
  cases hx : nxt c.m key ab with
  | some q => rfl
  | none =>
   simp only []
   cases B with
   | nil =>
    have : d.kids[wayN d key + 1]? = none := by rw [h2, wayN_eq, ← e2, e1]; simp
    rw [this]; simp [allM]
   | cons c2 B =>
    have : d.kids[wayN d key + 1]? = some c2.i := by
     rw [h2, wayN_eq, ← e2, e1, List.map_append, List.getElem?_append_right (by simp)]; simp
    obtain ⟨y', y1', y2', y3'⟩ := h8 c2 (by rw [e1]; simp)
    obtain ⟨q, f1, f2⟩ := y3'.edg (by omega)
    rw [this]
    simp only [f1, Option.map_some]
    simp only [allM, List.flatMap_cons]
    rw [List.getElem?_append_left (getLt f2), f2]
theorem count_kids {cs : List Kid} (h : ∀ c ∈ cs, c.fp.length + 1 ≤ 2 * c.m.length) : (allF cs).length + cs.length ≤ 2 * (allM cs).length := by
 induction cs with
 | nil => simp [allF, allM]
 | cons c cs ih =>
  have h1 := h c (by simp)
  have h2 := ih (fun c hc => h c (by simp [hc]))
  simp only [allF, allM, List.flatMap_cons, List.length_append, List.length_cons] at h2 ⊢
  omega
theorem Rep.count {l : List Nd} : ∀ {h i : Nat} {m : Con} {fp : List Nat} {z : Nat}, Rep h l i m fp z → (1 ≤ z ∧ (h = 0 ∨ 2 ≤ z)) → fp.length + 1 ≤ 2 * m.length ∧ h < m.length
 | 0, i, m, fp, z, ⟨d, h1, h2, h3, h4, h5, h6⟩, hz => by
  have : m.length = d.keys.length := by rw [h4]; simp [h3]
  rw [h5]; simp only [List.length_singleton]; omega
 | h + 1, i, m, fp, z, ⟨d, cs, h1, h2, h3, h4, h5, h6, h7, h8⟩, hz => by
  have hc : ∀ c ∈ cs, c.fp.length + 1 ≤ 2 * c.m.length ∧ h < c.m.length := fun c hc => by
   obtain ⟨y, y1, y2, y3⟩ := h8 c hc
   exact y3.count ⟨by omega, .inr y1⟩
  have hk := count_kids (fun c hx => (hc c hx).1)
  rw [h5, h4]
  simp only [List.length_cons]
  refine ⟨by omega, ?_⟩
  match cs, hc, h6, hz with
  | [], _, h6, hz => simp at h6; omega
  | [_], _, h6, hz => simp at h6; omega
  | c :: c' :: q, hc, _, _ =>
   have h1 := (hc c (by simp)).2
   have h2 := (hc c' (by simp)).2
   simp only [allM, List.flatMap_cons, List.length_append]
   omega
theorem add_ex (l : List Nd) (fr : List Nat) (x : Nd) (hfr : ∀ j ∈ fr, j < l.length) (hl : l.length ≤ 1000000) (hf : fr.length ≤ 1000000) : ∃ k l' fr', AddR l fr x k l' fr' ∧ l'[k]? = some x ∧ k < l'.length ∧ l.length ≤ l'.length ∧ l'.length ≤ l.length + 1 ∧
  (∀ j, j ≠ k → j < l.length → l'[j]? = l[j]?) ∧ ((fr = fr' ++ [k] ∧ l'.length = l.length) ∨ (fr = [] ∧ fr' = [] ∧ k = l.length ∧ l'.length = l.length + 1)) := by
 rcases List.eq_nil_or_concat fr with h | ⟨fr0, i, h⟩
 ·subst h
  exact ⟨l.length, l ++ [x], [], .new rfl hl, by simp, by simp, by simp, by simp, fun j _ hj => List.getElem?_append_left hj, .inr ⟨rfl, rfl, rfl, by simp⟩⟩
 ·subst h
  have hi : i < l.length := hfr i (by simp)
  exact ⟨i, l.set i x, fr0, .old fr0 i (by simp) hi hf, List.getElem?_set_self hi, by simpa using hi, by simp, by simp, fun j hj _ => List.getElem?_set_ne (Ne.symm hj), .inl ⟨by simp, by simp⟩⟩
theorem ge_trans {x s k : ByteArray} (h : sLt x s = false) (h' : sLt s k = false) : sLt x k = false := by
 cases hq : sLt x k with
 | false => rfl
 | true =>
  rcases not_sLt h with e | e
  ·subst e; rw [hq] at h'; cases h'
  ·rw [sLt_trans e hq] at h'; cases h'
theorem allM_append {A B : List Kid} : allM (A ++ B) = allM A ++ allM B := by simp [allM]
theorem allM_cons {c : Kid} {B : List Kid} : allM (c :: B) = c.m ++ allM B := by simp [allM]
theorem allF_append {A B : List Kid} : allF (A ++ B) = allF A ++ allF B := by simp [allF]
theorem allF_cons {c : Kid} {B : List Kid} : allF (c :: B) = c.fp ++ allF B := by simp [allF]
theorem Seps.parts : ∀ {A B : List Kid} {q : List ByteArray}, A ≠ [] → B ≠ [] → Seps q (A ++ B) → Rise q → ∃ q1 s q2, q = q1 ++ s :: q2 ∧ Seps q1 A ∧ Seps q2 B ∧ (∀ x ∈ ks (allM A), sLt x s = true) ∧ (∀ x ∈ ks (allM B), sLt x s = false)
 | [], _, _, h, _, _, _ => absurd rfl h
 | [c], [], _, _, h, _, _ => absurd rfl h
 | [c], c' :: B, [], _, _, h, _ => h.elim
 | [c], c' :: B, k :: q, _, _, h, hr => ⟨[], k, q, rfl, trivial, h.2.2, by simpa [allM] using h.1, h.2.1⟩
 | c :: c2 :: A, B, [], _, _, h, _ => h.elim
 | c :: c2 :: A, B, k :: q, _, hB, h, hr => by
  obtain ⟨q1, s, q2, e1, e2, e3, e4, e5⟩ := Seps.parts (A := c2 :: A) (by simp) hB h.2.2 hr.2
  have hks : sLt k s = true := hr.1 s (by rw [e1]; simp)
  refine ⟨k :: q1, s, q2, by rw [e1]; rfl, ⟨h.1, fun x hx => ?_, e2⟩, e3, fun x hx => ?_, e5⟩
  ·refine h.2.1 x ?_
   show x ∈ ks (allM ((c2 :: A) ++ B))
   rw [allM_append, ks_append]
   exact List.mem_append_left _ hx
  ·rw [allM_cons, ks_append, List.mem_append] at hx
   exact hx.elim (fun hx => sLt_trans (h.1 x hx) hks) (e4 x)
theorem Seps.join : ∀ {A B : List Kid} {q1 q2 : List ByteArray} {s : ByteArray}, Seps q1 A → Seps q2 B → B ≠ [] → (∀ c ∈ A, c.m ≠ []) → (∀ x ∈ ks (allM A), sLt x s = true) → (∀ x ∈ ks (allM B), sLt x s = false) → Seps (q1 ++ s :: q2) (A ++ B)
 | [], _, [], _, _, h1, _, _, _, _, _ => h1.elim
 | [], _, _ :: _, _, _, h1, _, _, _, _, _ => h1.elim
 | [c], c' :: B, [], q2, s, _, h2, _, _, h3, h4 => ⟨by simpa [allM] using h3, h4, h2⟩
 | [c], [], [], q2, s, _, h2, hB, _, h3, h4 => absurd rfl hB
 | c :: c2 :: A, B, k :: q1, q2, s, h1, h2, hB, hne, h3, h4 => by
  have ih := Seps.join (A := c2 :: A) h1.2.2 h2 hB (fun c hc => hne c (List.mem_cons_of_mem _ hc)) (fun x hx => h3 x (by rw [allM_cons, ks_append]; exact List.mem_append_right _ hx)) h4
  refine ⟨h1.1, fun x hx => ?_, ih⟩
  replace hx : x ∈ ks (allM ((c2 :: A) ++ B)) := hx
  rw [allM_append, ks_append, List.mem_append] at hx
  rcases hx with hx | hx
  ·exact h1.2.1 x hx
  ·obtain ⟨y, hy⟩ := List.exists_mem_of_ne_nil _ (hne c2 (by simp))
   have hy' : y.1 ∈ ks (allM (c2 :: A)) := by rw [allM_cons, ks_append]; exact List.mem_append_left _ (List.mem_map.2 ⟨y, hy, rfl⟩)
   have hys := h3 y.1 (by rw [allM_cons, ks_append]; exact List.mem_append_right _ hy')
   exact ge_trans (h4 x hx) (sLt_asymm (le_lt' (h1.2.1 y.1 hy') hys))
theorem Rep.good {l : List Nd} {h i : Nat} {m : Con} {fp : List Nat} {z : Nat} (r : Rep h l i m fp z) (hr : Rise (ks m)) (hz : z ≤ 900) : ∃ d, l[i]? = some d ∧ sizeN d = z ∧ Good d := by
 cases h with
 | zero =>
  obtain ⟨d, h1, h2, h3, h4, h5, h6⟩ := r
  have hk : Rise d.keys := by rw [h4, ks_zip h3] at hr; exact hr
  exact ⟨d, h1, by simp [sizeN, leafN, h2, h6], hk, by omega, by omega, by rw [h2]; simp⟩
 | succ h =>
  obtain ⟨d', e1, e2⟩ := Rep.size r
  obtain ⟨d, cs, h1, h2, h3, h4, h5, h6, h7, h8⟩ := r
  rw [h1] at e1; obtain rfl := Option.some.inj e1
  have hl := h7.len
  exact ⟨d, h1, e2, h7.rise fun c hc => by (obtain ⟨y, y1, y2, y3⟩ := h8 c hc; exact y3.ne (by omega)), by omega, by rw [h3]; simp, by rw [h2]; simp; omega⟩
end Go.Proofs.YtcpbibdbahfgaaaGreat
namespace Go.Proofs.YtcpbibdbahfgaaaGreat
open Go.Eng
structure SplitQ (h : Nat) (l : List Nd) (fr : List Nat) (c : Nat) (m : Con) (fp : List Nat) (k : Nat) (s : ByteArray) (l2 : List Nd) (fr2 : List Nat) (A B : Con) (fA fB : List Nat) (zA zB : Nat) : Prop where
 r : SplitR l fr c k s l2 fr2
 m : m = A ++ B
 a : Rep h l2 c A fA zA
 b : Rep h l2 k B fB zB
 za : 2 ≤ zA ∧ zA ≤ 4
 zb : 2 ≤ zB ∧ zB ≤ 4
 la : ∀ x ∈ ks A, sLt x s = true
 gb : ∀ x ∈ ks B, sLt x s = false
 perm : (fA ++ fB ++ fr2).Perm (fp ++ fr ++ List.range' l.length (l2.length - l.length))
 len : l.length ≤ l2.length ∧ l2.length ≤ l.length + 1
 out : ∀ j, j < l.length → j ∉ fp → j ∉ fr → l2[j]? = l[j]?
 fre : ∀ j ∈ fr2, j ∈ fr ∧ l2[j]? = l[j]?
 frl : fr2.length ≤ fr.length
 new : l.length < l2.length → fr2 = []
theorem split_leaf {l : List Nd} {fr : List Nat} {c : Nat} {m : Con} {fp : List Nat} {z : Nat} (r : Rep 0 l c m fp z) (hz : 4 < z) (hz2 : z ≤ 5) (hr : Rise (ks m)) (hnd : (fp ++ fr).Nodup) (hlt : ∀ j ∈ fp ++ fr, j < l.length) (hl : l.length ≤ 1000000) (hf : fr.length ≤ 1000000) :
  ∃ k s l2 fr2 A B fA fB zA zB, SplitQ 0 l fr c m fp k s l2 fr2 A B fA fB zA zB := by
 obtain ⟨d, g1, g2, g3⟩ := r.good hr (by omega)
 obtain ⟨d', h1, h2, h3, h4, h5, h6⟩ := r
 rw [g1] at h1; obtain rfl := Option.some.inj h1
 have hc : c < l.length := getLt g1
 have hck : cutK d = 2 := by simp [cutK, h2]; omega
 have hcR : cutR d = ⟨d.keys.drop 2, d.nums.drop 2, []⟩ := by simp [cutR, h2, show d.keys.length / 2 = 2 by omega]
 have hcL : cutL d = ⟨d.keys.take 2, d.nums.take 2, []⟩ := by simp [cutL, h2, show d.keys.length / 2 = 2 by omega]
 obtain ⟨k, l1, fr2, a1, a2, a3, a4, a5, a6, a7⟩ := add_ex l fr (cutR d) (fun j hj => hlt j (List.mem_append_right _ hj)) hl hf
 subst h5
 have hkc : k ≠ c := by
  rcases a7 with ⟨e, _⟩ | ⟨_, _, e, _⟩
  ·intro hq; subst hq; subst e; simp [List.nodup_append] at hnd
  ·omega
 have hs : d.keys[2]? = some d.keys[2] := List.getElem?_eq_getElem (by omega)
 have hrk : Rise d.keys := g3.rise
 have hm : m = (d.keys.take 2).zip (d.nums.take 2) ++ (d.keys.drop 2).zip (d.nums.drop 2) := by
  rw [← List.zip_append (by simp [h3]), List.take_append_drop, List.take_append_drop]; exact h4
 have hsp : d.keys.drop 2 = d.keys[2] :: d.keys.drop 3 := List.drop_eq_getElem_cons (by omega)
 have hap := hrk
 rw [← List.take_append_drop 2 d.keys] at hap
 obtain ⟨_, hp2, hp3⟩ := rise_append.1 hap
 refine ⟨k, d.keys[2], l1.set c (cutL d), fr2, _, _, [c], [k], 2, z - 2, ⟨⟨d, l1, g1, g3, by rw [hck]; exact hs, fun _ => h3, fun h0 => absurd h2 h0, a1, hkc, rfl⟩, hm, ?_, ?_, by omega, by omega, ?_, ?_, ?_, by simp; omega, ?_, ?_, ?_, ?_⟩⟩
 ·exact ⟨cutL d, List.getElem?_set_self (by omega), by rw [hcL], by rw [hcL]; simp [h3], by rw [hcL], rfl, by rw [hcL]; simp; omega⟩
 ·exact ⟨cutR d, by rw [List.getElem?_set_ne (Ne.symm hkc)]; exact a2, by rw [hcR], by rw [hcR]; simp [h3], by rw [hcR], rfl, by rw [hcR]; simp; omega⟩
 ·intro x hx
  rw [ks_zip (by simp [h3])] at hx
  exact hp3 x hx _ (by rw [hsp]; exact List.mem_cons_self)
 ·intro x hx
  rw [ks_zip (by simp [h3]), hsp] at hx
  rw [hsp] at hp2
  rcases List.mem_cons.1 hx with rfl | hx
  ·exact sLt_irrefl _
  ·exact sLt_asymm (hp2.1 x hx)
 ·rcases a7 with ⟨e, e2⟩ | ⟨e, e2, e3, e4⟩
  ·rw [e, List.length_set, e2, Nat.sub_self, List.range'_zero, List.append_nil]
   exact List.Perm.cons _ (List.perm_append_comm (l₁ := [k]))
  ·rw [e, e2, e3, List.length_set, e4, Nat.add_sub_cancel_left]
   exact List.Perm.refl _
 ·intro j hj h1 h2
  have hjc : j ≠ c := by simpa using h1
  rw [List.getElem?_set_ne (Ne.symm hjc)]
  refine a6 j ?_ hj
  rcases a7 with ⟨e, _⟩ | ⟨e, e2, e3, _⟩
  ·intro hq; subst hq; exact h2 (by rw [e]; simp)
  ·omega
 ·intro j hj
  rcases a7 with ⟨e, e2⟩ | ⟨e, e2, e3, e4⟩
  ·have hjf : j ∈ fr := by rw [e]; exact List.mem_append_left _ hj
   rw [List.nodup_append] at hnd
   have hjc : c ≠ j := hnd.2.2 c (by simp) j hjf
   have hjk : j ≠ k := by
    have h2 := hnd.2.1
    rw [e, List.nodup_append] at h2
    exact h2.2.2 j hj k (by simp)
   exact ⟨hjf, by rw [List.getElem?_set_ne hjc]; exact a6 j hjk (hlt j (List.mem_append_right _ hjf))⟩
  ·rw [e2] at hj; cases hj
 ·rcases a7 with ⟨e, e2⟩ | ⟨e, e2, e3, e4⟩
  ·rw [e]; simp
  ·rw [e2]; simp
 ·intro hq
  rw [List.length_set] at hq
  rcases a7 with ⟨e, e2⟩ | ⟨e, e2, e3, e4⟩
  ·omega
  ·exact e2
end Go.Proofs.YtcpbibdbahfgaaaGreat
namespace Go.Proofs.YtcpbibdbahfgaaaGreat
open Go.Eng
theorem split_node {h : Nat} {l : List Nd} {fr : List Nat} {c : Nat} {m : Con} {fp : List Nat} {z : Nat} (r : Rep (h + 1) l c m fp z) (hz : 4 < z) (hz2 : z ≤ 5) (hr : Rise (ks m)) (hnd : (fp ++ fr).Nodup) (hlt : ∀ j ∈ fp ++ fr, j < l.length) (hl : l.length ≤ 1000000) (hf : fr.length ≤ 1000000) :
  ∃ k s l2 fr2 A B fA fB zA zB, SplitQ (h + 1) l fr c m fp k s l2 fr2 A B fA fB zA zB := by
 obtain ⟨d, g1, g2, g3⟩ := r.good hr (by omega)
 obtain ⟨d', cs, h1, h2, h3, h4, h5, h6, h7, h8⟩ := r
 rw [g1] at h1; obtain rfl := Option.some.inj h1
 have hc : c < l.length := getLt g1
 have hsl := h7.len
 have hkl : d.kids.length = 5 := by rw [h2]; simp; omega
 have hne : d.kids ≠ [] := fun h0 => by rw [h0] at hkl; simp at hkl
 have hcs : cs = cs.take 2 ++ cs.drop 2 := (List.take_append_drop 2 cs).symm
 obtain ⟨A, eA⟩ : ∃ A, A = cs.take 2 := ⟨_, rfl⟩
 obtain ⟨B, eB⟩ : ∃ B, B = cs.drop 2 := ⟨_, rfl⟩
 have lA : A.length = 2 := by rw [eA]; simp; omega
 have lB : B.length = 3 := by rw [eB]; simp; omega
 rw [← eA, ← eB] at hcs
 obtain ⟨q1, s, q2, e1, e2, e3, e4, e5⟩ := Seps.parts (A := A) (B := B) (fun h0 => by rw [h0] at lA; simp at lA) (fun h0 => by rw [h0] at lB; simp at lB) (hcs ▸ h7) g3.rise
 have lq := e2.len
 have hq1 : q1.length = 1 := by omega
 have hck : cutK d = 1 := by simp [cutK, hne, hkl]
 have hcR : cutR d = ⟨q2, [], B.map Kid.i⟩ := by
  simp only [cutR, hne, if_false, hkl]
  rw [e1, h2, eB]
  simp
  rw [show q1 ++ s :: q2 = (q1 ++ [s]) ++ q2 by simp, List.drop_left' (by simp; omega)]
 have hcL : cutL d = ⟨q1, [], A.map Kid.i⟩ := by
  simp only [cutL, hne, if_false, hkl]
  rw [e1, h2, eA, h3]
  simp
  rw [List.take_left' (by omega)]
 obtain ⟨k, l1, fr2, a1, a2, a3, a4, a5, a6, a7⟩ := add_ex l fr (cutR d) (fun j hj => hlt j (List.mem_append_right _ hj)) hl hf
 subst h5
 have hkf : ∀ j ∈ c :: allF cs, k ≠ j := by
  intro j hj hq
  subst hq
  rcases a7 with ⟨e, _⟩ | ⟨_, _, e, _⟩
  ·rw [List.nodup_append] at hnd
   exact hnd.2.2 _ hj _ (by rw [e]; simp) rfl
  ·have := hlt _ (List.mem_append_left _ hj); omega
 have hkc : k ≠ c := hkf c (by simp)
 have hcf : c ∉ allF cs := by
  rw [List.nodup_append] at hnd
  exact (List.nodup_cons.1 hnd.1).1
 have hold : ∀ j ∈ allF cs, (l1.set c (cutL d))[j]? = l[j]? := fun j hj => by
  have hne2 : c ≠ j := fun e => hcf (by rw [e]; exact hj)
  rw [List.getElem?_set_ne hne2]
  exact a6 j (fun e => hkf j (List.mem_cons_of_mem _ hj) e.symm) (hlt j (List.mem_append_left _ (List.mem_cons_of_mem _ hj)))
 have hkid : ∀ x ∈ cs, ∃ y, 2 ≤ y ∧ y ≤ 4 ∧ Rep h (l1.set c (cutL d)) x.i x.m x.fp y := fun x hx => by
  obtain ⟨y, y1, y2, y3⟩ := h8 x hx
  exact ⟨y, y1, y2, y3.frame fun j hj => hold j (List.mem_flatMap.2 ⟨x, hx, hj⟩)⟩
 have hs : d.keys[1]? = some s := by rw [e1, List.getElem?_append_right (by omega)]; simp [hq1]
 have hF : allF cs = allF A ++ allF B := by rw [hcs, allF_append]
 refine ⟨k, s, l1.set c (cutL d), fr2, allM A, allM B, c :: allF A, k :: allF B, 2, 3, ⟨⟨d, l1, g1, g3, by rw [hck]; exact hs, fun h0 => absurd h0 hne, fun _ => ⟨by omega, by omega⟩, a1, hkc, rfl⟩, by rw [h4, hcs, allM_append], ?_, ?_, by omega, by omega, e4, e5, ?_, by simp; omega, ?_, ?_, ?_, ?_⟩⟩
 ·exact ⟨cutL d, A, List.getElem?_set_self (by omega), by rw [hcL], by rw [hcL], rfl, rfl, lA.symm, by rw [hcL]; exact e2, fun x hx => hkid x (by rw [hcs]; exact List.mem_append_left _ hx)⟩
 ·exact ⟨cutR d, B, by rw [List.getElem?_set_ne (Ne.symm hkc)]; exact a2, by rw [hcR], by rw [hcR], rfl, rfl, lB.symm, by rw [hcR]; exact e3, fun x hx => hkid x (by rw [hcs]; exact List.mem_append_right _ hx)⟩
 ·rcases a7 with ⟨e, e2'⟩ | ⟨e, e2, e3, e4⟩
  ·rw [e, hF, List.length_set, e2', Nat.sub_self, List.range'_zero, List.append_nil]
   simp only [List.cons_append, List.append_assoc]
   refine List.Perm.cons _ (List.Perm.append_left _ ?_)
   rw [← List.append_assoc]
   exact (List.perm_append_comm (l₁ := [k]) (l₂ := allF B ++ fr2)).trans (by simp)
  ·rw [e, e2, e3, List.length_set, e4, Nat.add_sub_cancel_left, hF, List.append_nil, List.append_nil]
   simp only [List.cons_append, List.append_assoc]
   refine List.Perm.cons _ (List.Perm.append_left _ ?_)
   exact List.perm_append_comm (l₁ := [l.length])
 ·intro j hj h1 h2
  have hjc : c ≠ j := fun e => h1 (by simp [e])
  rw [List.getElem?_set_ne hjc]
  refine a6 j ?_ hj
  rcases a7 with ⟨e, _⟩ | ⟨e, e2, e3, _⟩
  ·intro hq; subst hq; exact h2 (by rw [e]; simp)
  ·omega
 ·intro j hj
  rcases a7 with ⟨e, e2⟩ | ⟨e, e2, e3, e4⟩
  ·have hjf : j ∈ fr := by rw [e]; exact List.mem_append_left _ hj
   rw [List.nodup_append] at hnd
   have hjc : c ≠ j := hnd.2.2 c (by simp) j hjf
   have hjk : j ≠ k := by
    have h2 := hnd.2.1
    rw [e, List.nodup_append] at h2
    exact h2.2.2 j hj k (by simp)
   exact ⟨hjf, by rw [List.getElem?_set_ne hjc]; exact a6 j hjk (hlt j (List.mem_append_right _ hjf))⟩
  ·rw [e2] at hj; cases hj
 ·rcases a7 with ⟨e, e2⟩ | ⟨e, e2, e3, e4⟩
  ·rw [e]; simp
  ·rw [e2]; simp
 ·intro hq
  rw [List.length_set] at hq
  rcases a7 with ⟨e, e2⟩ | ⟨e, e2, e3, e4⟩
  ·omega
  ·exact e2
theorem split_rep {h : Nat} {l : List Nd} {fr : List Nat} {c : Nat} {m : Con} {fp : List Nat} {z : Nat} (r : Rep h l c m fp z) (hz : 4 < z) (hz2 : z ≤ 5) (hr : Rise (ks m)) (hnd : (fp ++ fr).Nodup) (hlt : ∀ j ∈ fp ++ fr, j < l.length) (hl : l.length ≤ 1000000) (hf : fr.length ≤ 1000000) :
  ∃ k s l2 fr2 A B fA fB zA zB, SplitQ h l fr c m fp k s l2 fr2 A B fA fB zA zB := by
 cases h with
 | zero => exact split_leaf r hz hz2 hr hnd hlt hl hf
 | succ h => exact split_node r hz hz2 hr hnd hlt hl hf
end Go.Proofs.YtcpbibdbahfgaaaGreat
