/-
 Inserts.
-/
import Derived.Test.YtcpbibdbahfgaaaGreatSl2
set_option linter.unusedVariables false
set_option linter.unusedSimpArgs false
set_option autoImplicit false
namespace Go.Proofs.YtcpbibdbahfgaaaGreat
open Go.Eng
namespace FSl3
theorem el_136_eStr : TyEl Tryz.prog 136 eStr 16 := ⟨Tryz.underlying136, .string ⟨#[]⟩, by kernel_rfl, rfl⟩
theorem ze_9 : (Tryz.prog.info? 9).map (·.zero) = some (some (.string ⟨#[]⟩)) := by kernel_rfl
theorem sl_136 : TySl Tryz.prog 136 9 1 := ⟨Tryz.underlying136, by kernel_rfl⟩
theorem el_72_eInt : TyEl Tryz.prog 72 eInt 8 := ⟨Tryz.underlying72, .int .i64 0, by kernel_rfl, rfl⟩
theorem ze_3 : (Tryz.prog.info? 3).map (·.zero) = some (some (.int .i64 0)) := by kernel_rfl
theorem sl_72 : TySl Tryz.prog 72 3 1 := ⟨Tryz.underlying72, by kernel_rfl⟩
theorem el_72_eNat : TyEl Tryz.prog 72 eNat 8 := ⟨Tryz.underlying72, .int .i64 0, by kernel_rfl, rfl⟩
end FSl3
open FSl3
theorem insS_spec {h hv : SH} {xs : List ByteArray} {i : Nat} {y : ByteArray} (hi : i ≤ xs.length) (hb : xs.length ≤ 1000000) :
  Does Tryz.prog 193 [h.v, .int .i64 (i : Int), hv.v] [Sl eStr h xs, Sl eStr hv [y]] (fun v l => ∃ h', v = h'.v ∧ l = [Sl eStr h' (xs.take i ++ y :: xs.drop i)]) := by
 refine spec_of Tryz.func193 rfl Tryz.ntmps193 Tryz.results193 _ (by simp) fun ι F => ?_
 refine vc_see 0 rfl (Sl.vis.imp fun w r => (⟨r.len, r.cap⟩ : h.len = xs.length ∧ xs.length ≤ h.cap)) (fun hlc => ?_)
 obtain ⟨hlen, hcap⟩ := hlc
 refine vc_see 1 rfl (Sl.vis.imp fun w r => (⟨r.len, r.cap⟩ : hv.len = 1 ∧ 1 ≤ hv.cap)) (fun hlc => ?_)
 obtain ⟨hva, hvl, hvc⟩ := hv
 obtain ⟨hvl0, hvcap⟩ := hlc
 simp only [] at hvl0 hvcap
 subst hvl0
 refine vc_seq ?_
 refine vc_region ?_
 refine vp ?_
 refine vc_nil ?_
 refine vc_then ?_
 refine vc_seq ?_
 refine vc_region ?_
 refine vp ?_
 refine vp ?_
 refine vc_y (y_slice sl_136 rfl i h.len h.cap ⟨_, _, rfl, rfl⟩ rfl rfl (by simp) (by omega) (by omega) (by omega)) rfl ?_
 refine vc_nil ?_
 refine vc_then ?_
 refine vc_seq ?_
 refine vc_region ?_
 refine vp ?_
 refine vc_y (y_len Tryz.underlying136 rfl (show 1 = 1 from rfl)) rfl ?_
 refine vp ?_
 refine vc_nil ?_
 refine vc_then ?_
 refine vc_seq ?_
 refine vc_seq ?_
 refine vc_region ?_
 refine vp ?_
 refine vp ?_
 refine vc_nil ?_
 refine vc_then ?_
 first | refine vc_condP rfl (fun c16 => ?_) (fun c16 => ?_) | refine vc_condN rfl (fun c16 => ?_) (fun c16 => ?_) | refine vc_cond rfl (fun c16 => ?_) (fun c16 => ?_)
 ·skip
  simp at c16
  done
 ·skip
  refine vc_skip ?_
  refine vc_then ?_
  refine vc_seq ?_
  refine vc_region ?_
  refine vp ?_
  refine vc_y (y_len Tryz.underlying136 rfl hlen) rfl ?_
  refine vp ?_
  refine vc_nil ?_
  refine vc_then ?_
  refine vc_seq ?_
  refine vc_seq ?_
  refine vc_region ?_
  iterate 3 refine vp ?_
  refine vc_nil ?_
  refine vc_then ?_
  first | refine vc_condP rfl (fun c22 => ?_) (fun c22 => ?_) | refine vc_condN rfl (fun c22 => ?_) (fun c22 => ?_) | refine vc_cond rfl (fun c22 => ?_) (fun c22 => ?_)
  ·skip
   obtain rfl : i = xs.length := by omega
   refine vc_seq ?_
   refine vc_region ?_
   refine vp ?_
   refine vp ?_
   refine vc_append 0 rfl 1 rfl (Sl.vis) el_136_eStr Tryz.underlying136 rfl rfl (by simp; omega) (by simp; omega) rfl (fun h25 => ?_)
   refine vp ?_
   refine vc_nil ?_
   refine vc_then ?_
   refine vc_ret ?_
   refine vc_thenRet ?_
   exact vc_end1 Tryz.results193 rfl _ (ent_pick [0] rfl) ⟨h25, rfl, by simp⟩
  ·skip
   have hi2 : i < xs.length := by omega
   refine vc_skip ?_
   refine vc_then ?_
   refine vc_seq ?_
   refine vc_seq ?_
   refine vc_region ?_
   refine vp ?_
   refine vp ?_
   first | refine vc_y (y_arith _ rfl (wrap64 (by omega) (by omega))) rfl ?_ | refine vp ?_
   refine vp ?_
   refine vc_y (y_cap Tryz.underlying136 rfl) rfl ?_
   refine vp ?_
   refine vc_nil ?_
   refine vc_then ?_
   first | refine vc_condP rfl (fun c31 => ?_) (fun c31 => ?_) | refine vc_condN rfl (fun c31 => ?_) (fun c31 => ?_) | refine vc_cond rfl (fun c31 => ?_) (fun c31 => ?_)
   ·skip
    refine vc_seq ?_
    refine vc_region ?_
    refine vp ?_
    refine vp ?_
    refine vc_y (y_slice sl_136 rfl 0 i h.cap rfl ⟨_, _, rfl, rfl⟩ rfl (by simp) (by omega) (by omega) (by omega)) rfl ?_
    refine vp ?_
    refine vp ?_
    first | refine vc_y (y_arith _ rfl (wrap64 (by omega) (by omega))) rfl ?_ | refine vp ?_
    refine vp ?_
    first | refine vc_y (y_arith _ rfl (wrap64 (by omega) (by omega))) rfl ?_ | refine vp ?_
    refine vc_appendZ 0 rfl (E := eStr) (h := h.cut (Enc.sz eStr) 0 i h.cap) (xs := xs.take i) (Sl.vis.imp fun w r => r.cutL hi) (⟨#[]⟩ : ByteArray) el_136_eStr Tryz.underlying3 ze_9 rfl rfl (xs.length + 1 - i) rfl (by omega) (by simp [SH.cut]; omega) (by simp; omega) (by simp; omega) rfl (fun h40 hh40 => ?_)
    refine vp ?_
    refine vc_nil ?_
    refine vc_then ?_
    refine vc_seq ?_
    refine vc_region ?_
    have hL : (xs.take i ++ List.replicate (xs.length + 1 - i) (⟨#[]⟩ : ByteArray)).length = xs.length + 1 := by simp; omega
    have hL2 : (xs.take i).length = i := by simp; omega
    refine vc_open 0 rfl (by omega) (fun b pre post hh hc2 hpost => ?_)
    obtain ⟨hha, hhl, hhc⟩ := h40
    simp only [SH.mk.injEq] at hh
    obtain ⟨rfl, rfl, _⟩ := hh
    simp only [] at hh40 hc2 hpost
    have hbd := Nat.mul_le_mul_right (Enc.sz eStr) (show i + 1 ≤ xs.length + 1 by omega)
    have hbd2 := Nat.mul_le_mul_right (Enc.sz eStr) (show (i + 1) + (xs.length - i) ≤ xs.length + 1 by omega)
    rw [Nat.add_mul, Nat.one_mul] at hbd
    rw [Nat.add_mul] at hbd2
    refine vp ?_
    refine vp ?_
    refine vc_y (y_sliceR sl_136 rfl i (xs.take i ++ List.replicate (xs.length + 1 - i) (⟨#[]⟩ : ByteArray)).length hhc (pre.length + i * Enc.sz eStr) (xs.length + 1 - i) _ ⟨_, _, rfl, rfl⟩ rfl rfl (by simp) (by omega) (by omega) (Nat.le_refl _) (by omega) rfl (by omega) rfl) rfl ?_
    refine vp ?_
    refine vc_copyRaw 0 rfl (E := eStr) [y] 2 rfl Sl.vis sl_136 rfl rfl 1 (minL (by omega)) rfl (by simp only [List.length_append, flat_length, hL] at *; omega) rfl ?_
    refine vc_cells 0 (pre ++ flat eStr (over (xs.take i ++ List.replicate (xs.length + 1 - i) (⟨#[]⟩ : ByteArray)) i [y]) ++ post) rfl (by rw [splice_flat eStr (by omega), hL, show i + [y].length - (xs.length + 1) = 0 by simp; omega]; simp) ?_
    refine vc_nil ?_
    refine vc_then ?_
    refine vc_seq ?_
    refine vc_draw (by kernel_rfl) _ none [] rfl ?_
    refine tpp 0 ?_
    refine tpp 1 ?_
    refine tpp 2 ?_
    first | refine tp 3 rfl (by exact y_arith _ rfl (wrap64 (by omega) (by omega))) ?_ | refine tpp 3 ?_
    refine tp 4 rfl (by exact y_sliceR sl_136 rfl (i + 1) (xs.take i ++ List.replicate (xs.length + 1 - i) (⟨#[]⟩ : ByteArray)).length hhc (pre.length + (i + 1) * Enc.sz eStr) (xs.length - i) _ ⟨_, _, rfl, rfl⟩ rfl rfl (by simp) (by omega) (by omega) (Nat.le_refl _) (by omega) rfl (by omega) rfl) ?_
    refine tpp 5 ?_
    refine tpp 6 ?_
    refine tp 7 rfl (by exact y_slice sl_136 rfl i h.len h.cap ⟨_, _, rfl, rfl⟩ rfl rfl (by simp) (by omega) (by omega) (by omega)) ?_
    refine va_ready [8] (by kernel_rfl) rfl ?_
    refine vo_cons rfl (fun hC0 => ?_) ?_
    ·skip
     refine vc_copyRaw 0 rfl (E := eStr) (xs.drop i) 1 rfl (Sl.vis.imp fun w r => (r.cutD hi).re) sl_136 rfl rfl (xs.length - i) (minR (show xs.length - i ≤ h.len - i by omega)) (by simp) (by simp only [List.length_append, flat_length, over_len (show i ≤ (xs.take i ++ List.replicate (xs.length + 1 - i) (⟨#[]⟩ : ByteArray)).length by omega), hL, List.length_singleton]; have := Nat.mul_le_mul_right (Enc.sz eStr) (Nat.le_max_left (xs.length + 1) (i + 1)); omega) rfl ?_
     refine vc_cells 0 (pre ++ flat eStr (xs.take i ++ y :: xs.drop i) ++ post) rfl (by rw [splice_flat eStr (by rw [over_len (by omega), hL]; omega), over_new y _ hi2, over_len (by omega), hL, List.length_drop, show i + 1 + (xs.length - i) - max (xs.length + 1) (i + [y].length) = 0 by simp; omega]; simp) ?_
     refine vc_turn 0 rfl (Sl eStr ⟨some ⟨b, pre.length, none⟩, (xs.take i ++ List.replicate (xs.length + 1 - i) (⟨#[]⟩ : ByteArray)).length, hhc⟩ (xs.take i ++ y :: xs.drop i)) (VS.of_ent (sl_close rfl (by simp; omega) (by rw [show (xs.take i ++ y :: xs.drop i).length = xs.length + 1 by simp; omega]; rw [hL] at hpost; exact hpost) (by rw [hL]; simp; omega))) ?_
     refine vc_nil ?_
     refine vc_then ?_
     refine va_kept hC0 [] rfl ?_
     refine va_done (by kernel_rfl) ?_
     refine vc_then ?_
     refine vc_seq ?_
     refine vc_region ?_
     refine vp ?_
     refine vp ?_
     refine vc_nil ?_
     refine vc_then ?_
     refine vc_ret ?_
     refine vc_thenRet ?_
     exact vc_end1 Tryz.results193 rfl _ (ent_pick [0] rfl) ⟨_, rfl, rfl⟩
    exact vo_nil
   ·skip
    refine vc_skip ?_
    refine vc_then ?_
    refine vc_seq ?_
    refine vc_region ?_
    have hcap1 : xs.length + 1 ≤ h.cap := by omega
    refine vc_open 0 rfl (by omega) (fun b pre post hh hc2 hpost => ?_)
    refine vc_open 1 rfl (by exact hvcap) (fun b2 pre2 post2 hh2 hc22 hpost2 => ?_)
    obtain ⟨hha, hhl, hhc⟩ := h
    simp only [SH.mk.injEq] at hh
    obtain ⟨rfl, rfl, _⟩ := hh
    simp only [] at hlen hcap hcap1 hc2 hpost
    simp only [SH.mk.injEq] at hh2
    obtain ⟨rfl, _, _⟩ := hh2
    have hbd := Nat.mul_le_mul_right (Enc.sz eStr) (show 1 ≤ hhc - xs.length by omega)
    have hbd2 := Nat.mul_le_mul_right (Enc.sz eStr) (show (i + 1) + (xs.length - i) ≤ xs.length + 1 by omega)
    have hbd3 := Nat.mul_le_mul_right (Enc.sz eStr) (show i + 1 ≤ xs.length by omega)
    rw [Nat.add_mul] at hbd2
    rw [Nat.add_mul] at hbd3
    rw [Nat.add_mul xs.length] at hbd2
    have hne : (pre ++ flat eStr xs ++ post).isEmpty = false := by
     rw [List.isEmpty_eq_false_iff_exists_mem]
     have h3 := Nat.mul_pos (show 0 < xs.length by omega) (eStr).pos
     exact List.exists_mem_of_length_pos (by simp only [List.length_append, flat_length]; omega)
    iterate 3 refine vp ?_
    first | refine vc_y (y_arith _ rfl (wrap64 (by omega) (by omega))) rfl ?_ | refine vp ?_
    refine vc_y (y_sliceR sl_136 rfl 0 (xs.length + 1) hhc pre.length (xs.length + 1) hhc rfl ⟨_, _, rfl, rfl⟩ rfl (by simp) (by omega) (by omega) (by omega) (by omega) (by simp) (by omega) rfl) rfl ?_
    refine vp ?_
    refine vc_nil ?_
    refine vc_then ?_
    refine vc_seq ?_
    refine vc_seq ?_
    refine vc_region ?_
    iterate 4 refine vp ?_
    first | refine vc_y (y_arith _ rfl (wrap64 (by omega) (by omega))) rfl ?_ | refine vp ?_
    refine vc_y (y_sliceR sl_136 rfl (i + 1) (xs.length + 1) hhc (pre.length + (i + 1) * Enc.sz eStr) (xs.length - i) _ ⟨_, _, rfl, rfl⟩ rfl rfl (by simp) (by omega) (by omega) (by omega) (by omega) rfl (by omega) rfl) rfl ?_
    refine vc_y (by exact y_overlaps (tR := 4) (f := 223) Tryz.func223 rfl (by kernel_rfl) (by kernel_rfl) (by kernel_rfl) sl_136 1 0 rfl rfl rfl hne rfl rfl rfl) rfl ?_
    refine vp ?_
    refine vc_nil ?_
    refine vc_then ?_
    refine vc_condT rfl ?_
    refine vc_seq ?_
    refine vc_draw (by kernel_rfl) _ none [] rfl ?_
    refine tpp 0 ?_
    refine tpp 1 ?_
    refine tpp 2 ?_
    first | refine tp 3 rfl (by exact y_arith _ rfl (wrap64 (by omega) (by omega))) ?_ | refine tpp 3 ?_
    refine tp 4 rfl (by exact y_sliceR sl_136 rfl (i + 1) (xs.length + 1) hhc (pre.length + (i + 1) * Enc.sz eStr) (xs.length - i) _ ⟨_, _, rfl, rfl⟩ rfl rfl (by simp) (by omega) (by omega) (by omega) (by omega) rfl (by omega) rfl) ?_
    refine tpp 5 ?_
    refine tpp 6 ?_
    refine tp 7 rfl (by exact y_sliceR sl_136 rfl i (xs.length + 1) hhc (pre.length + i * Enc.sz eStr) (xs.length + 1 - i) (hhc - i) ⟨_, _, rfl, rfl⟩ rfl rfl (by simp) (by omega) (by omega) (by omega) (by omega) rfl (by omega) rfl) ?_
    refine va_ready [8] (by kernel_rfl) rfl ?_
    refine vo_cons rfl (fun hC0 => ?_) ?_
    ·skip
     refine vc_copyRaw 0 rfl (E := eStr) (xs.drop i) 0 rfl (Pts.rdR (xs.drop i) i takeAll rfl rfl (by simp; omega)) sl_136 rfl rfl (xs.length - i) (minR (by omega)) (by simp) (by simp only [List.length_append, flat_length]; omega) rfl ?_
     refine vc_cells 0 (pre ++ flat eStr (over xs (i + 1) (xs.drop i)) ++ post.drop (Enc.sz eStr)) rfl (by rw [splice_flat eStr (by omega), List.length_drop, show i + 1 + (xs.length - i) - xs.length = 1 by omega, Nat.one_mul]) ?_
     refine vc_nil ?_
     refine vc_then ?_
     refine va_kept hC0 [] rfl ?_
     refine va_done (by kernel_rfl) ?_
     refine vc_then ?_
     refine vc_seq ?_
     refine vc_region ?_
     refine vp ?_
     refine vp ?_
     refine vc_y (y_sliceR sl_136 rfl i (xs.length + 1) hhc (pre.length + i * Enc.sz eStr) (xs.length + 1 - i) (hhc - i) ⟨_, _, rfl, rfl⟩ rfl rfl (by simp) (by omega) (by omega) (by omega) (by omega) rfl (by omega) rfl) rfl ?_
     refine vp ?_
     refine vc_copyRaw 0 rfl (E := eStr) [y] 1 rfl (Pts.rd hc22) sl_136 rfl rfl 1 (minL (by omega)) rfl (by simp only [List.length_append, flat_length, over_len (show i + 1 ≤ xs.length by omega), List.length_drop]; have := Nat.mul_le_mul_right (Enc.sz eStr) (Nat.le_max_left xs.length (i + 1 + (xs.length - i))); omega) rfl ?_
     refine vc_cells 0 (pre ++ flat eStr (xs.take i ++ y :: xs.drop i) ++ post.drop (Enc.sz eStr)) rfl (by rw [splice_flat eStr (by rw [over_len (by omega)]; omega), over_ins y hi2, over_len (by omega), List.length_drop, show i + [y].length - max xs.length (i + 1 + (xs.length - i)) = 0 by simp; omega]; simp) ?_
     refine vc_turn 0 rfl (Sl eStr ⟨some ⟨b, pre.length, none⟩, xs.length + 1, hhc⟩ (xs.take i ++ y :: xs.drop i)) (VS.of_ent (sl_close rfl (by simp; omega) (by rw [show (xs.take i ++ y :: xs.drop i).length = xs.length + 1 by simp; omega, List.length_drop]; have : (hhc - (xs.length + 1)) * Enc.sz eStr + 1 * Enc.sz eStr ≤ (hhc - xs.length) * Enc.sz eStr := (by rw [← Nat.add_mul]; exact Nat.mul_le_mul_right _ (by omega)); omega) (by simp; omega))) ?_
     refine vc_nil ?_
     refine vc_then ?_
     refine vc_seq ?_
     refine vc_region ?_
     refine vp ?_
     refine vp ?_
     refine vc_nil ?_
     refine vc_then ?_
     refine vc_ret ?_
     refine vc_thenRet ?_
     exact vc_end1 Tryz.results193 rfl _ (ent_pick [0] rfl) ⟨_, rfl, rfl⟩
    exact vo_nil
theorem insI_spec {h hv : SH} {xs : List Int} {i : Nat} {y : Int} (hi : i ≤ xs.length) (hb : xs.length ≤ 1000000) :
  Does Tryz.prog 194 [h.v, .int .i64 (i : Int), hv.v] [Sl eInt h xs, Sl eInt hv [y]] (fun v l => ∃ h', v = h'.v ∧ l = [Sl eInt h' (xs.take i ++ y :: xs.drop i)]) := by
 refine spec_of Tryz.func194 rfl Tryz.ntmps194 Tryz.results194 _ (by simp) fun ι F => ?_
 refine vc_see 0 rfl (Sl.vis.imp fun w r => (⟨r.len, r.cap⟩ : h.len = xs.length ∧ xs.length ≤ h.cap)) (fun hlc => ?_)
 obtain ⟨hlen, hcap⟩ := hlc
 refine vc_see 1 rfl (Sl.vis.imp fun w r => (⟨r.len, r.cap⟩ : hv.len = 1 ∧ 1 ≤ hv.cap)) (fun hlc => ?_)
 obtain ⟨hva, hvl, hvc⟩ := hv
 obtain ⟨hvl0, hvcap⟩ := hlc
 simp only [] at hvl0 hvcap
 subst hvl0
 refine vc_seq ?_
 refine vc_region ?_
 refine vp ?_
 refine vc_nil ?_
 refine vc_then ?_
 refine vc_seq ?_
 refine vc_region ?_
 refine vp ?_
 refine vp ?_
 refine vc_y (y_slice sl_72 rfl i h.len h.cap ⟨_, _, rfl, rfl⟩ rfl rfl (by simp) (by omega) (by omega) (by omega)) rfl ?_
 refine vc_nil ?_
 refine vc_then ?_
 refine vc_seq ?_
 refine vc_region ?_
 refine vp ?_
 refine vc_y (y_len Tryz.underlying72 rfl (show 1 = 1 from rfl)) rfl ?_
 refine vp ?_
 refine vc_nil ?_
 refine vc_then ?_
 refine vc_seq ?_
 refine vc_seq ?_
 refine vc_region ?_
 refine vp ?_
 refine vp ?_
 refine vc_nil ?_
 refine vc_then ?_
 first | refine vc_condP rfl (fun c16 => ?_) (fun c16 => ?_) | refine vc_condN rfl (fun c16 => ?_) (fun c16 => ?_) | refine vc_cond rfl (fun c16 => ?_) (fun c16 => ?_)
 ·skip
  simp at c16
  done
 ·skip
  refine vc_skip ?_
  refine vc_then ?_
  refine vc_seq ?_
  refine vc_region ?_
  refine vp ?_
  refine vc_y (y_len Tryz.underlying72 rfl hlen) rfl ?_
  refine vp ?_
  refine vc_nil ?_
  refine vc_then ?_
  refine vc_seq ?_
  refine vc_seq ?_
  refine vc_region ?_
  iterate 3 refine vp ?_
  refine vc_nil ?_
  refine vc_then ?_
  first | refine vc_condP rfl (fun c22 => ?_) (fun c22 => ?_) | refine vc_condN rfl (fun c22 => ?_) (fun c22 => ?_) | refine vc_cond rfl (fun c22 => ?_) (fun c22 => ?_)
  ·skip
   obtain rfl : i = xs.length := by omega
   refine vc_seq ?_
   refine vc_region ?_
   refine vp ?_
   refine vp ?_
   refine vc_append 0 rfl 1 rfl (Sl.vis) el_72_eInt Tryz.underlying72 rfl rfl (by simp; omega) (by simp; omega) rfl (fun h25 => ?_)
   refine vp ?_
   refine vc_nil ?_
   refine vc_then ?_
   refine vc_ret ?_
   refine vc_thenRet ?_
   exact vc_end1 Tryz.results194 rfl _ (ent_pick [0] rfl) ⟨h25, rfl, by simp⟩
  ·skip
   have hi2 : i < xs.length := by omega
   refine vc_skip ?_
   refine vc_then ?_
   refine vc_seq ?_
   refine vc_seq ?_
   refine vc_region ?_
   refine vp ?_
   refine vp ?_
   first | refine vc_y (y_arith _ rfl (wrap64 (by omega) (by omega))) rfl ?_ | refine vp ?_
   refine vp ?_
   refine vc_y (y_cap Tryz.underlying72 rfl) rfl ?_
   refine vp ?_
   refine vc_nil ?_
   refine vc_then ?_
   first | refine vc_condP rfl (fun c31 => ?_) (fun c31 => ?_) | refine vc_condN rfl (fun c31 => ?_) (fun c31 => ?_) | refine vc_cond rfl (fun c31 => ?_) (fun c31 => ?_)
   ·skip
    refine vc_seq ?_
    refine vc_region ?_
    refine vp ?_
    refine vp ?_
    refine vc_y (y_slice sl_72 rfl 0 i h.cap rfl ⟨_, _, rfl, rfl⟩ rfl (by simp) (by omega) (by omega) (by omega)) rfl ?_
    refine vp ?_
    refine vp ?_
    first | refine vc_y (y_arith _ rfl (wrap64 (by omega) (by omega))) rfl ?_ | refine vp ?_
    refine vp ?_
    first | refine vc_y (y_arith _ rfl (wrap64 (by omega) (by omega))) rfl ?_ | refine vp ?_
    refine vc_appendZ 0 rfl (E := eInt) (h := h.cut (Enc.sz eInt) 0 i h.cap) (xs := xs.take i) (Sl.vis.imp fun w r => r.cutL hi) (0 : Int) el_72_eInt Tryz.underlying3 ze_3 rfl rfl (xs.length + 1 - i) rfl (by omega) (by simp [SH.cut]; omega) (by simp; omega) (by simp; omega) rfl (fun h40 hh40 => ?_)
    refine vp ?_
    refine vc_nil ?_
    refine vc_then ?_
    refine vc_seq ?_
    refine vc_region ?_
    have hL : (xs.take i ++ List.replicate (xs.length + 1 - i) (0 : Int)).length = xs.length + 1 := by simp; omega
    have hL2 : (xs.take i).length = i := by simp; omega
    refine vc_open 0 rfl (by omega) (fun b pre post hh hc2 hpost => ?_)
    obtain ⟨hha, hhl, hhc⟩ := h40
    simp only [SH.mk.injEq] at hh
    obtain ⟨rfl, rfl, _⟩ := hh
    simp only [] at hh40 hc2 hpost
    have hbd := Nat.mul_le_mul_right (Enc.sz eInt) (show i + 1 ≤ xs.length + 1 by omega)
    have hbd2 := Nat.mul_le_mul_right (Enc.sz eInt) (show (i + 1) + (xs.length - i) ≤ xs.length + 1 by omega)
    rw [Nat.add_mul, Nat.one_mul] at hbd
    rw [Nat.add_mul] at hbd2
    refine vp ?_
    refine vp ?_
    refine vc_y (y_sliceR sl_72 rfl i (xs.take i ++ List.replicate (xs.length + 1 - i) (0 : Int)).length hhc (pre.length + i * Enc.sz eInt) (xs.length + 1 - i) _ ⟨_, _, rfl, rfl⟩ rfl rfl (by simp) (by omega) (by omega) (Nat.le_refl _) (by omega) rfl (by omega) rfl) rfl ?_
    refine vp ?_
    refine vc_copyRaw 0 rfl (E := eInt) [y] 2 rfl Sl.vis sl_72 rfl rfl 1 (minL (by omega)) rfl (by simp only [List.length_append, flat_length, hL] at *; omega) rfl ?_
    refine vc_cells 0 (pre ++ flat eInt (over (xs.take i ++ List.replicate (xs.length + 1 - i) (0 : Int)) i [y]) ++ post) rfl (by rw [splice_flat eInt (by omega), hL, show i + [y].length - (xs.length + 1) = 0 by simp; omega]; simp) ?_
    refine vc_nil ?_
    refine vc_then ?_
    refine vc_seq ?_
    refine vc_draw (by kernel_rfl) _ none [] rfl ?_
    refine tpp 0 ?_
    refine tpp 1 ?_
    refine tpp 2 ?_
    first | refine tp 3 rfl (by exact y_arith _ rfl (wrap64 (by omega) (by omega))) ?_ | refine tpp 3 ?_
    refine tp 4 rfl (by exact y_sliceR sl_72 rfl (i + 1) (xs.take i ++ List.replicate (xs.length + 1 - i) (0 : Int)).length hhc (pre.length + (i + 1) * Enc.sz eInt) (xs.length - i) _ ⟨_, _, rfl, rfl⟩ rfl rfl (by simp) (by omega) (by omega) (Nat.le_refl _) (by omega) rfl (by omega) rfl) ?_
    refine tpp 5 ?_
    refine tpp 6 ?_
    refine tp 7 rfl (by exact y_slice sl_72 rfl i h.len h.cap ⟨_, _, rfl, rfl⟩ rfl rfl (by simp) (by omega) (by omega) (by omega)) ?_
    refine va_ready [8] (by kernel_rfl) rfl ?_
    refine vo_cons rfl (fun hC0 => ?_) ?_
    ·skip
     refine vc_copyRaw 0 rfl (E := eInt) (xs.drop i) 1 rfl (Sl.vis.imp fun w r => (r.cutD hi).re) sl_72 rfl rfl (xs.length - i) (minR (show xs.length - i ≤ h.len - i by omega)) (by simp) (by simp only [List.length_append, flat_length, over_len (show i ≤ (xs.take i ++ List.replicate (xs.length + 1 - i) (0 : Int)).length by omega), hL, List.length_singleton]; have := Nat.mul_le_mul_right (Enc.sz eInt) (Nat.le_max_left (xs.length + 1) (i + 1)); omega) rfl ?_
     refine vc_cells 0 (pre ++ flat eInt (xs.take i ++ y :: xs.drop i) ++ post) rfl (by rw [splice_flat eInt (by rw [over_len (by omega), hL]; omega), over_new y _ hi2, over_len (by omega), hL, List.length_drop, show i + 1 + (xs.length - i) - max (xs.length + 1) (i + [y].length) = 0 by simp; omega]; simp) ?_
     refine vc_turn 0 rfl (Sl eInt ⟨some ⟨b, pre.length, none⟩, (xs.take i ++ List.replicate (xs.length + 1 - i) (0 : Int)).length, hhc⟩ (xs.take i ++ y :: xs.drop i)) (VS.of_ent (sl_close rfl (by simp; omega) (by rw [show (xs.take i ++ y :: xs.drop i).length = xs.length + 1 by simp; omega]; rw [hL] at hpost; exact hpost) (by rw [hL]; simp; omega))) ?_
     refine vc_nil ?_
     refine vc_then ?_
     refine va_kept hC0 [] rfl ?_
     refine va_done (by kernel_rfl) ?_
     refine vc_then ?_
     refine vc_seq ?_
     refine vc_region ?_
     refine vp ?_
     refine vp ?_
     refine vc_nil ?_
     refine vc_then ?_
     refine vc_ret ?_
     refine vc_thenRet ?_
     exact vc_end1 Tryz.results194 rfl _ (ent_pick [0] rfl) ⟨_, rfl, rfl⟩
    exact vo_nil
   ·skip
    refine vc_skip ?_
    refine vc_then ?_
    refine vc_seq ?_
    refine vc_region ?_
    have hcap1 : xs.length + 1 ≤ h.cap := by omega
    refine vc_open 0 rfl (by omega) (fun b pre post hh hc2 hpost => ?_)
    refine vc_open 1 rfl (by exact hvcap) (fun b2 pre2 post2 hh2 hc22 hpost2 => ?_)
    obtain ⟨hha, hhl, hhc⟩ := h
    simp only [SH.mk.injEq] at hh
    obtain ⟨rfl, rfl, _⟩ := hh
    simp only [] at hlen hcap hcap1 hc2 hpost
    simp only [SH.mk.injEq] at hh2
    obtain ⟨rfl, _, _⟩ := hh2
    have hbd := Nat.mul_le_mul_right (Enc.sz eInt) (show 1 ≤ hhc - xs.length by omega)
    have hbd2 := Nat.mul_le_mul_right (Enc.sz eInt) (show (i + 1) + (xs.length - i) ≤ xs.length + 1 by omega)
    have hbd3 := Nat.mul_le_mul_right (Enc.sz eInt) (show i + 1 ≤ xs.length by omega)
    rw [Nat.add_mul] at hbd2
    rw [Nat.add_mul] at hbd3
    rw [Nat.add_mul xs.length] at hbd2
    have hne : (pre ++ flat eInt xs ++ post).isEmpty = false := by
     rw [List.isEmpty_eq_false_iff_exists_mem]
     have h3 := Nat.mul_pos (show 0 < xs.length by omega) (eInt).pos
     exact List.exists_mem_of_length_pos (by simp only [List.length_append, flat_length]; omega)
    iterate 3 refine vp ?_
    first | refine vc_y (y_arith _ rfl (wrap64 (by omega) (by omega))) rfl ?_ | refine vp ?_
    refine vc_y (y_sliceR sl_72 rfl 0 (xs.length + 1) hhc pre.length (xs.length + 1) hhc rfl ⟨_, _, rfl, rfl⟩ rfl (by simp) (by omega) (by omega) (by omega) (by omega) (by simp) (by omega) rfl) rfl ?_
    refine vp ?_
    refine vc_nil ?_
    refine vc_then ?_
    refine vc_seq ?_
    refine vc_seq ?_
    refine vc_region ?_
    iterate 4 refine vp ?_
    first | refine vc_y (y_arith _ rfl (wrap64 (by omega) (by omega))) rfl ?_ | refine vp ?_
    refine vc_y (y_sliceR sl_72 rfl (i + 1) (xs.length + 1) hhc (pre.length + (i + 1) * Enc.sz eInt) (xs.length - i) _ ⟨_, _, rfl, rfl⟩ rfl rfl (by simp) (by omega) (by omega) (by omega) (by omega) rfl (by omega) rfl) rfl ?_
    refine vc_y (by exact y_overlaps (tR := 4) (f := 225) Tryz.func225 rfl (by kernel_rfl) (by kernel_rfl) (by kernel_rfl) sl_72 1 0 rfl rfl rfl hne rfl rfl rfl) rfl ?_
    refine vp ?_
    refine vc_nil ?_
    refine vc_then ?_
    refine vc_condT rfl ?_
    refine vc_seq ?_
    refine vc_draw (by kernel_rfl) _ none [] rfl ?_
    refine tpp 0 ?_
    refine tpp 1 ?_
    refine tpp 2 ?_
    first | refine tp 3 rfl (by exact y_arith _ rfl (wrap64 (by omega) (by omega))) ?_ | refine tpp 3 ?_
    refine tp 4 rfl (by exact y_sliceR sl_72 rfl (i + 1) (xs.length + 1) hhc (pre.length + (i + 1) * Enc.sz eInt) (xs.length - i) _ ⟨_, _, rfl, rfl⟩ rfl rfl (by simp) (by omega) (by omega) (by omega) (by omega) rfl (by omega) rfl) ?_
    refine tpp 5 ?_
    refine tpp 6 ?_
    refine tp 7 rfl (by exact y_sliceR sl_72 rfl i (xs.length + 1) hhc (pre.length + i * Enc.sz eInt) (xs.length + 1 - i) (hhc - i) ⟨_, _, rfl, rfl⟩ rfl rfl (by simp) (by omega) (by omega) (by omega) (by omega) rfl (by omega) rfl) ?_
    refine va_ready [8] (by kernel_rfl) rfl ?_
    refine vo_cons rfl (fun hC0 => ?_) ?_
    ·skip
     refine vc_copyRaw 0 rfl (E := eInt) (xs.drop i) 0 rfl (Pts.rdR (xs.drop i) i takeAll rfl rfl (by simp; omega)) sl_72 rfl rfl (xs.length - i) (minR (by omega)) (by simp) (by simp only [List.length_append, flat_length]; omega) rfl ?_
     refine vc_cells 0 (pre ++ flat eInt (over xs (i + 1) (xs.drop i)) ++ post.drop (Enc.sz eInt)) rfl (by rw [splice_flat eInt (by omega), List.length_drop, show i + 1 + (xs.length - i) - xs.length = 1 by omega, Nat.one_mul]) ?_
     refine vc_nil ?_
     refine vc_then ?_
     refine va_kept hC0 [] rfl ?_
     refine va_done (by kernel_rfl) ?_
     refine vc_then ?_
     refine vc_seq ?_
     refine vc_region ?_
     refine vp ?_
     refine vp ?_
     refine vc_y (y_sliceR sl_72 rfl i (xs.length + 1) hhc (pre.length + i * Enc.sz eInt) (xs.length + 1 - i) (hhc - i) ⟨_, _, rfl, rfl⟩ rfl rfl (by simp) (by omega) (by omega) (by omega) (by omega) rfl (by omega) rfl) rfl ?_
     refine vp ?_
     refine vc_copyRaw 0 rfl (E := eInt) [y] 1 rfl (Pts.rd hc22) sl_72 rfl rfl 1 (minL (by omega)) rfl (by simp only [List.length_append, flat_length, over_len (show i + 1 ≤ xs.length by omega), List.length_drop]; have := Nat.mul_le_mul_right (Enc.sz eInt) (Nat.le_max_left xs.length (i + 1 + (xs.length - i))); omega) rfl ?_
     refine vc_cells 0 (pre ++ flat eInt (xs.take i ++ y :: xs.drop i) ++ post.drop (Enc.sz eInt)) rfl (by rw [splice_flat eInt (by rw [over_len (by omega)]; omega), over_ins y hi2, over_len (by omega), List.length_drop, show i + [y].length - max xs.length (i + 1 + (xs.length - i)) = 0 by simp; omega]; simp) ?_
     refine vc_turn 0 rfl (Sl eInt ⟨some ⟨b, pre.length, none⟩, xs.length + 1, hhc⟩ (xs.take i ++ y :: xs.drop i)) (VS.of_ent (sl_close rfl (by simp; omega) (by rw [show (xs.take i ++ y :: xs.drop i).length = xs.length + 1 by simp; omega, List.length_drop]; have : (hhc - (xs.length + 1)) * Enc.sz eInt + 1 * Enc.sz eInt ≤ (hhc - xs.length) * Enc.sz eInt := (by rw [← Nat.add_mul]; exact Nat.mul_le_mul_right _ (by omega)); omega) (by simp; omega))) ?_
     refine vc_nil ?_
     refine vc_then ?_
     refine vc_seq ?_
     refine vc_region ?_
     refine vp ?_
     refine vp ?_
     refine vc_nil ?_
     refine vc_then ?_
     refine vc_ret ?_
     refine vc_thenRet ?_
     exact vc_end1 Tryz.results194 rfl _ (ent_pick [0] rfl) ⟨_, rfl, rfl⟩
    exact vo_nil
theorem insN_spec {h hv : SH} {xs : List Nat} {i : Nat} {y : Nat} (hi : i ≤ xs.length) (hb : xs.length ≤ 1000000) :
  Does Tryz.prog 194 [h.v, .int .i64 (i : Int), hv.v] [Sl eNat h xs, Sl eNat hv [y]] (fun v l => ∃ h', v = h'.v ∧ l = [Sl eNat h' (xs.take i ++ y :: xs.drop i)]) := by
 refine spec_of Tryz.func194 rfl Tryz.ntmps194 Tryz.results194 _ (by simp) fun ι F => ?_
 refine vc_see 0 rfl (Sl.vis.imp fun w r => (⟨r.len, r.cap⟩ : h.len = xs.length ∧ xs.length ≤ h.cap)) (fun hlc => ?_)
 obtain ⟨hlen, hcap⟩ := hlc
 refine vc_see 1 rfl (Sl.vis.imp fun w r => (⟨r.len, r.cap⟩ : hv.len = 1 ∧ 1 ≤ hv.cap)) (fun hlc => ?_)
 obtain ⟨hva, hvl, hvc⟩ := hv
 obtain ⟨hvl0, hvcap⟩ := hlc
 simp only [] at hvl0 hvcap
 subst hvl0
 refine vc_seq ?_
 refine vc_region ?_
 refine vp ?_
 refine vc_nil ?_
 refine vc_then ?_
 refine vc_seq ?_
 refine vc_region ?_
 refine vp ?_
 refine vp ?_
 refine vc_y (y_slice sl_72 rfl i h.len h.cap ⟨_, _, rfl, rfl⟩ rfl rfl (by simp) (by omega) (by omega) (by omega)) rfl ?_
 refine vc_nil ?_
 refine vc_then ?_
 refine vc_seq ?_
 refine vc_region ?_
 refine vp ?_
 refine vc_y (y_len Tryz.underlying72 rfl (show 1 = 1 from rfl)) rfl ?_
 refine vp ?_
 refine vc_nil ?_
 refine vc_then ?_
 refine vc_seq ?_
 refine vc_seq ?_
 refine vc_region ?_
 refine vp ?_
 refine vp ?_
 refine vc_nil ?_
 refine vc_then ?_
 first | refine vc_condP rfl (fun c16 => ?_) (fun c16 => ?_) | refine vc_condN rfl (fun c16 => ?_) (fun c16 => ?_) | refine vc_cond rfl (fun c16 => ?_) (fun c16 => ?_)
 ·skip
  simp at c16
  done
 ·skip
  refine vc_skip ?_
  refine vc_then ?_
  refine vc_seq ?_
  refine vc_region ?_
  refine vp ?_
  refine vc_y (y_len Tryz.underlying72 rfl hlen) rfl ?_
  refine vp ?_
  refine vc_nil ?_
  refine vc_then ?_
  refine vc_seq ?_
  refine vc_seq ?_
  refine vc_region ?_
  iterate 3 refine vp ?_
  refine vc_nil ?_
  refine vc_then ?_
  first | refine vc_condP rfl (fun c22 => ?_) (fun c22 => ?_) | refine vc_condN rfl (fun c22 => ?_) (fun c22 => ?_) | refine vc_cond rfl (fun c22 => ?_) (fun c22 => ?_)
  ·skip
   obtain rfl : i = xs.length := by omega
   refine vc_seq ?_
   refine vc_region ?_
   refine vp ?_
   refine vp ?_
   refine vc_append 0 rfl 1 rfl (Sl.vis) el_72_eNat Tryz.underlying72 rfl rfl (by simp; omega) (by simp; omega) rfl (fun h25 => ?_)
   refine vp ?_
   refine vc_nil ?_
   refine vc_then ?_
   refine vc_ret ?_
   refine vc_thenRet ?_
   exact vc_end1 Tryz.results194 rfl _ (ent_pick [0] rfl) ⟨h25, rfl, by simp⟩
  ·skip
   have hi2 : i < xs.length := by omega
   refine vc_skip ?_
   refine vc_then ?_
   refine vc_seq ?_
   refine vc_seq ?_
   refine vc_region ?_
   refine vp ?_
   refine vp ?_
   first | refine vc_y (y_arith _ rfl (wrap64 (by omega) (by omega))) rfl ?_ | refine vp ?_
   refine vp ?_
   refine vc_y (y_cap Tryz.underlying72 rfl) rfl ?_
   refine vp ?_
   refine vc_nil ?_
   refine vc_then ?_
   first | refine vc_condP rfl (fun c31 => ?_) (fun c31 => ?_) | refine vc_condN rfl (fun c31 => ?_) (fun c31 => ?_) | refine vc_cond rfl (fun c31 => ?_) (fun c31 => ?_)
   ·skip
    refine vc_seq ?_
    refine vc_region ?_
    refine vp ?_
    refine vp ?_
    refine vc_y (y_slice sl_72 rfl 0 i h.cap rfl ⟨_, _, rfl, rfl⟩ rfl (by simp) (by omega) (by omega) (by omega)) rfl ?_
    refine vp ?_
    refine vp ?_
    first | refine vc_y (y_arith _ rfl (wrap64 (by omega) (by omega))) rfl ?_ | refine vp ?_
    refine vp ?_
    first | refine vc_y (y_arith _ rfl (wrap64 (by omega) (by omega))) rfl ?_ | refine vp ?_
    refine vc_appendZ 0 rfl (E := eNat) (h := h.cut (Enc.sz eNat) 0 i h.cap) (xs := xs.take i) (Sl.vis.imp fun w r => r.cutL hi) (0 : Nat) el_72_eNat Tryz.underlying3 ze_3 rfl rfl (xs.length + 1 - i) rfl (by omega) (by simp [SH.cut]; omega) (by simp; omega) (by simp; omega) rfl (fun h40 hh40 => ?_)
    refine vp ?_
    refine vc_nil ?_
    refine vc_then ?_
    refine vc_seq ?_
    refine vc_region ?_
    have hL : (xs.take i ++ List.replicate (xs.length + 1 - i) (0 : Nat)).length = xs.length + 1 := by simp; omega
    have hL2 : (xs.take i).length = i := by simp; omega
    refine vc_open 0 rfl (by omega) (fun b pre post hh hc2 hpost => ?_)
    obtain ⟨hha, hhl, hhc⟩ := h40
    simp only [SH.mk.injEq] at hh
    obtain ⟨rfl, rfl, _⟩ := hh
    simp only [] at hh40 hc2 hpost
    have hbd := Nat.mul_le_mul_right (Enc.sz eNat) (show i + 1 ≤ xs.length + 1 by omega)
    have hbd2 := Nat.mul_le_mul_right (Enc.sz eNat) (show (i + 1) + (xs.length - i) ≤ xs.length + 1 by omega)
    rw [Nat.add_mul, Nat.one_mul] at hbd
    rw [Nat.add_mul] at hbd2
    refine vp ?_
    refine vp ?_
    refine vc_y (y_sliceR sl_72 rfl i (xs.take i ++ List.replicate (xs.length + 1 - i) (0 : Nat)).length hhc (pre.length + i * Enc.sz eNat) (xs.length + 1 - i) _ ⟨_, _, rfl, rfl⟩ rfl rfl (by simp) (by omega) (by omega) (Nat.le_refl _) (by omega) rfl (by omega) rfl) rfl ?_
    refine vp ?_
    refine vc_copyRaw 0 rfl (E := eNat) [y] 2 rfl Sl.vis sl_72 rfl rfl 1 (minL (by omega)) rfl (by simp only [List.length_append, flat_length, hL] at *; omega) rfl ?_
    refine vc_cells 0 (pre ++ flat eNat (over (xs.take i ++ List.replicate (xs.length + 1 - i) (0 : Nat)) i [y]) ++ post) rfl (by rw [splice_flat eNat (by omega), hL, show i + [y].length - (xs.length + 1) = 0 by simp; omega]; simp) ?_
    refine vc_nil ?_
    refine vc_then ?_
    refine vc_seq ?_
    refine vc_draw (by kernel_rfl) _ none [] rfl ?_
    refine tpp 0 ?_
    refine tpp 1 ?_
    refine tpp 2 ?_
    first | refine tp 3 rfl (by exact y_arith _ rfl (wrap64 (by omega) (by omega))) ?_ | refine tpp 3 ?_
    refine tp 4 rfl (by exact y_sliceR sl_72 rfl (i + 1) (xs.take i ++ List.replicate (xs.length + 1 - i) (0 : Nat)).length hhc (pre.length + (i + 1) * Enc.sz eNat) (xs.length - i) _ ⟨_, _, rfl, rfl⟩ rfl rfl (by simp) (by omega) (by omega) (Nat.le_refl _) (by omega) rfl (by omega) rfl) ?_
    refine tpp 5 ?_
    refine tpp 6 ?_
    refine tp 7 rfl (by exact y_slice sl_72 rfl i h.len h.cap ⟨_, _, rfl, rfl⟩ rfl rfl (by simp) (by omega) (by omega) (by omega)) ?_
    refine va_ready [8] (by kernel_rfl) rfl ?_
    refine vo_cons rfl (fun hC0 => ?_) ?_
    ·skip
     refine vc_copyRaw 0 rfl (E := eNat) (xs.drop i) 1 rfl (Sl.vis.imp fun w r => (r.cutD hi).re) sl_72 rfl rfl (xs.length - i) (minR (show xs.length - i ≤ h.len - i by omega)) (by simp) (by simp only [List.length_append, flat_length, over_len (show i ≤ (xs.take i ++ List.replicate (xs.length + 1 - i) (0 : Nat)).length by omega), hL, List.length_singleton]; have := Nat.mul_le_mul_right (Enc.sz eNat) (Nat.le_max_left (xs.length + 1) (i + 1)); omega) rfl ?_
     refine vc_cells 0 (pre ++ flat eNat (xs.take i ++ y :: xs.drop i) ++ post) rfl (by rw [splice_flat eNat (by rw [over_len (by omega), hL]; omega), over_new y _ hi2, over_len (by omega), hL, List.length_drop, show i + 1 + (xs.length - i) - max (xs.length + 1) (i + [y].length) = 0 by simp; omega]; simp) ?_
     refine vc_turn 0 rfl (Sl eNat ⟨some ⟨b, pre.length, none⟩, (xs.take i ++ List.replicate (xs.length + 1 - i) (0 : Nat)).length, hhc⟩ (xs.take i ++ y :: xs.drop i)) (VS.of_ent (sl_close rfl (by simp; omega) (by rw [show (xs.take i ++ y :: xs.drop i).length = xs.length + 1 by simp; omega]; rw [hL] at hpost; exact hpost) (by rw [hL]; simp; omega))) ?_
     refine vc_nil ?_
     refine vc_then ?_
     refine va_kept hC0 [] rfl ?_
     refine va_done (by kernel_rfl) ?_
     refine vc_then ?_
     refine vc_seq ?_
     refine vc_region ?_
     refine vp ?_
     refine vp ?_
     refine vc_nil ?_
     refine vc_then ?_
     refine vc_ret ?_
     refine vc_thenRet ?_
     exact vc_end1 Tryz.results194 rfl _ (ent_pick [0] rfl) ⟨_, rfl, rfl⟩
    exact vo_nil
   ·skip
    refine vc_skip ?_
    refine vc_then ?_
    refine vc_seq ?_
    refine vc_region ?_
    have hcap1 : xs.length + 1 ≤ h.cap := by omega
    refine vc_open 0 rfl (by omega) (fun b pre post hh hc2 hpost => ?_)
    refine vc_open 1 rfl (by exact hvcap) (fun b2 pre2 post2 hh2 hc22 hpost2 => ?_)
    obtain ⟨hha, hhl, hhc⟩ := h
    simp only [SH.mk.injEq] at hh
    obtain ⟨rfl, rfl, _⟩ := hh
    simp only [] at hlen hcap hcap1 hc2 hpost
    simp only [SH.mk.injEq] at hh2
    obtain ⟨rfl, _, _⟩ := hh2
    have hbd := Nat.mul_le_mul_right (Enc.sz eNat) (show 1 ≤ hhc - xs.length by omega)
    have hbd2 := Nat.mul_le_mul_right (Enc.sz eNat) (show (i + 1) + (xs.length - i) ≤ xs.length + 1 by omega)
    have hbd3 := Nat.mul_le_mul_right (Enc.sz eNat) (show i + 1 ≤ xs.length by omega)
    rw [Nat.add_mul] at hbd2
    rw [Nat.add_mul] at hbd3
    rw [Nat.add_mul xs.length] at hbd2
    have hne : (pre ++ flat eNat xs ++ post).isEmpty = false := by
     rw [List.isEmpty_eq_false_iff_exists_mem]
     have h3 := Nat.mul_pos (show 0 < xs.length by omega) (eNat).pos
     exact List.exists_mem_of_length_pos (by simp only [List.length_append, flat_length]; omega)
    iterate 3 refine vp ?_
    first | refine vc_y (y_arith _ rfl (wrap64 (by omega) (by omega))) rfl ?_ | refine vp ?_
    refine vc_y (y_sliceR sl_72 rfl 0 (xs.length + 1) hhc pre.length (xs.length + 1) hhc rfl ⟨_, _, rfl, rfl⟩ rfl (by simp) (by omega) (by omega) (by omega) (by omega) (by simp) (by omega) rfl) rfl ?_
    refine vp ?_
    refine vc_nil ?_
    refine vc_then ?_
    refine vc_seq ?_
    refine vc_seq ?_
    refine vc_region ?_
    iterate 4 refine vp ?_
    first | refine vc_y (y_arith _ rfl (wrap64 (by omega) (by omega))) rfl ?_ | refine vp ?_
    refine vc_y (y_sliceR sl_72 rfl (i + 1) (xs.length + 1) hhc (pre.length + (i + 1) * Enc.sz eNat) (xs.length - i) _ ⟨_, _, rfl, rfl⟩ rfl rfl (by simp) (by omega) (by omega) (by omega) (by omega) rfl (by omega) rfl) rfl ?_
    refine vc_y (by exact y_overlaps (tR := 4) (f := 225) Tryz.func225 rfl (by kernel_rfl) (by kernel_rfl) (by kernel_rfl) sl_72 1 0 rfl rfl rfl hne rfl rfl rfl) rfl ?_
    refine vp ?_
    refine vc_nil ?_
    refine vc_then ?_
    refine vc_condT rfl ?_
    refine vc_seq ?_
    refine vc_draw (by kernel_rfl) _ none [] rfl ?_
    refine tpp 0 ?_
    refine tpp 1 ?_
    refine tpp 2 ?_
    first | refine tp 3 rfl (by exact y_arith _ rfl (wrap64 (by omega) (by omega))) ?_ | refine tpp 3 ?_
    refine tp 4 rfl (by exact y_sliceR sl_72 rfl (i + 1) (xs.length + 1) hhc (pre.length + (i + 1) * Enc.sz eNat) (xs.length - i) _ ⟨_, _, rfl, rfl⟩ rfl rfl (by simp) (by omega) (by omega) (by omega) (by omega) rfl (by omega) rfl) ?_
    refine tpp 5 ?_
    refine tpp 6 ?_
    refine tp 7 rfl (by exact y_sliceR sl_72 rfl i (xs.length + 1) hhc (pre.length + i * Enc.sz eNat) (xs.length + 1 - i) (hhc - i) ⟨_, _, rfl, rfl⟩ rfl rfl (by simp) (by omega) (by omega) (by omega) (by omega) rfl (by omega) rfl) ?_
    refine va_ready [8] (by kernel_rfl) rfl ?_
    refine vo_cons rfl (fun hC0 => ?_) ?_
    ·skip
     refine vc_copyRaw 0 rfl (E := eNat) (xs.drop i) 0 rfl (Pts.rdR (xs.drop i) i takeAll rfl rfl (by simp; omega)) sl_72 rfl rfl (xs.length - i) (minR (by omega)) (by simp) (by simp only [List.length_append, flat_length]; omega) rfl ?_
     refine vc_cells 0 (pre ++ flat eNat (over xs (i + 1) (xs.drop i)) ++ post.drop (Enc.sz eNat)) rfl (by rw [splice_flat eNat (by omega), List.length_drop, show i + 1 + (xs.length - i) - xs.length = 1 by omega, Nat.one_mul]) ?_
     refine vc_nil ?_
     refine vc_then ?_
     refine va_kept hC0 [] rfl ?_
     refine va_done (by kernel_rfl) ?_
     refine vc_then ?_
     refine vc_seq ?_
     refine vc_region ?_
     refine vp ?_
     refine vp ?_
     refine vc_y (y_sliceR sl_72 rfl i (xs.length + 1) hhc (pre.length + i * Enc.sz eNat) (xs.length + 1 - i) (hhc - i) ⟨_, _, rfl, rfl⟩ rfl rfl (by simp) (by omega) (by omega) (by omega) (by omega) rfl (by omega) rfl) rfl ?_
     refine vp ?_
     refine vc_copyRaw 0 rfl (E := eNat) [y] 1 rfl (Pts.rd hc22) sl_72 rfl rfl 1 (minL (by omega)) rfl (by simp only [List.length_append, flat_length, over_len (show i + 1 ≤ xs.length by omega), List.length_drop]; have := Nat.mul_le_mul_right (Enc.sz eNat) (Nat.le_max_left xs.length (i + 1 + (xs.length - i))); omega) rfl ?_
     refine vc_cells 0 (pre ++ flat eNat (xs.take i ++ y :: xs.drop i) ++ post.drop (Enc.sz eNat)) rfl (by rw [splice_flat eNat (by rw [over_len (by omega)]; omega), over_ins y hi2, over_len (by omega), List.length_drop, show i + [y].length - max xs.length (i + 1 + (xs.length - i)) = 0 by simp; omega]; simp) ?_
     refine vc_turn 0 rfl (Sl eNat ⟨some ⟨b, pre.length, none⟩, xs.length + 1, hhc⟩ (xs.take i ++ y :: xs.drop i)) (VS.of_ent (sl_close rfl (by simp; omega) (by rw [show (xs.take i ++ y :: xs.drop i).length = xs.length + 1 by simp; omega, List.length_drop]; have : (hhc - (xs.length + 1)) * Enc.sz eNat + 1 * Enc.sz eNat ≤ (hhc - xs.length) * Enc.sz eNat := (by rw [← Nat.add_mul]; exact Nat.mul_le_mul_right _ (by omega)); omega) (by simp; omega))) ?_
     refine vc_nil ?_
     refine vc_then ?_
     refine vc_seq ?_
     refine vc_region ?_
     refine vp ?_
     refine vp ?_
     refine vc_nil ?_
     refine vc_then ?_
     refine vc_ret ?_
     refine vc_thenRet ?_
     exact vc_end1 Tryz.results194 rfl _ (ent_pick [0] rfl) ⟨_, rfl, rfl⟩
    exact vo_nil
end Go.Proofs.YtcpbibdbahfgaaaGreat
