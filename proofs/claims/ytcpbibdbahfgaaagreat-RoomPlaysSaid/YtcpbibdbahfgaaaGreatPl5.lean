/-
 Inserts.
-/
import Derived.Test.YtcpbibdbahfgaaaGreatPl4
import Derived.Test.YtcpbibdbahfgaaaGreatPl3
set_option linter.unusedVariables false
set_option linter.unusedSimpArgs false
set_option autoImplicit false
namespace Go.Proofs.YtcpbibdbahfgaaaGreat
open Go.Eng
namespace FSl3
theorem el_136_eStr : TyEl Tryz.prog 136 eStr 16 := ⟨Tryz.underlying136, .string ⟨#[]⟩, by kernel_rfl, rfl⟩
theorem ze_9 : (Tryz.prog.info? 9).map (·.zero) = some (some (.string ⟨#[]⟩)) := by kernel_rfl
theorem sl_136 : TySl Tryz.prog 136 9 1 := ⟨Tryz.underlying136, by kernel_rfl⟩
theorem el_72_eInt : TyEl Tryz.prog 72 eInt 8 := ⟨Tryz.underlying72, .int .i64 0, by kernel_rfl, rfl⟩
theorem ze_3 : (Tryz.prog.info? 3).map (·.zero) = some (some (.int .i64 0)) := by kernel_rfl
theorem sl_72 : TySl Tryz.prog 72 3 1 := ⟨Tryz.underlying72, by kernel_rfl⟩
theorem el_72_eNat : TyEl Tryz.prog 72 eNat 8 := ⟨Tryz.underlying72, .int .i64 0, by kernel_rfl, rfl⟩
end FSl3
open FSl3
theorem insS_spec {h hv : SH} {xs : List ByteArray} {i : Nat} {y : ByteArray} (hi : i ≤ xs.length) (hb : xs.length ≤ 1000000) :
  Does Tryz.prog 193 [h.v, .int .i64 (i : Int), hv.v] [Sl eStr h xs, Sl eStr hv [y]] (fun v l => ∃ h', v = h'.v ∧ l = [Sl eStr h' (xs.take i ++ y :: xs.drop i)]) := by
 refine spec_of Tryz.func193 rfl Tryz.ntmps193 Tryz.results193 _ (by simp) fun ι F => ?_
 refine vc_see 0 rfl (Sl.vis.imp fun w r => (⟨r.len, r.cap⟩ : h.len = xs.length ∧ xs.length ≤ h.cap)) (fun hlc => ?_)
 obtain ⟨hlen, hcap⟩ := hlc
 refine vc_see 1 rfl (Sl.vis.imp fun w r => (⟨r.len, r.cap⟩ : hv.len = 1 ∧ 1 ≤ hv.cap)) (fun hlc => ?_)
 obtain ⟨hva, hvl, hvc⟩ := hv
 obtain ⟨hvl0, hvcap⟩ := hlc
 simp only [] at hvl0 hvcap
 subst hvl0
 refine vc_seq ?_
 refine vc_region ?_
 refine vp ?_
 refine vc_nil ?_
 refine vc_then ?_
 refine vc_seq ?_
 refine vc_region ?_
 refine vp ?_
 refine vp ?_
 refine vc_y (y_slice sl_136 rfl i h.len h.cap ⟨_, _, rfl, rfl⟩ rfl rfl (by simp) (by omega) (by omega) (by omega)) rfl ?_
 refine vc_nil ?_
 refine vc_then ?_
 refine vc_seq ?_
 refine vc_region ?_
 refine vp ?_
 refine vc_y (y_len Tryz.underlying136 rfl (show 1 = 1 from rfl)) rfl ?_
 refine vp ?_
 refine vc_nil ?_
 refine vc_then ?_
 refine vc_seq ?_
 refine vc_seq ?_
 refine vc_region ?_
 refine vp ?_
 refine vp ?_
 refine vc_nil ?_
 refine vc_then ?_
 first | refine vc_condP rfl (fun c16 => ?_) (fun c16 => ?_) | refine vc_condN rfl (fun c16 => ?_) (fun c16 => ?_) | refine vc_cond rfl (fun c16 => ?_) (fun c16 => ?_)
 ·skip
  simp at c16
  done
 ·skip
  refine vc_skip ?_
  refine vc_then ?_
  refine vc_seq ?_
  refine vc_region ?_
  refine vp ?_
  refine vc_y (y_len Tryz.underlying136 rfl hlen) rfl ?_
  refine vp ?_
  refine vc_nil ?_
  refine vc_then ?_
  refine vc_seq ?_
  refine vc_seq ?_
  refine vc_region ?_
  iterate 3 refine vp ?_
  refine vc_nil ?_
  refine vc_then ?_
  first | refine vc_condP rfl (fun c22 => ?_) (fun c22 => ?_) | refine vc_condN rfl (fun c22 => ?_) (fun c22 => ?_) | refine vc_cond rfl (fun c22 => ?_) (fun c22 => ?_)
  ·skip
   obtain rfl : i = xs.length := by omega
   refine vc_seq ?_
   refine vc_region ?_
   refine vp ?_
   refine vp ?_
   refine vc_append 0 rfl 1 rfl (Sl.vis) el_136_eStr Tryz.underlying136 rfl rfl (by simp; omega) (by simp; omega) rfl (fun h25 => ?_)
   refine vp ?_
   refine vc_nil ?_
   refine vc_then ?_
   refine vc_ret ?_
   refine vc_thenRet ?_
   exact vc_end1 Tryz.results193 rfl _ (ent_pick [0] rfl) ⟨h25, rfl, by simp⟩
  ·skip
   have hi2 : i < xs.length := by omega
   refine vc_skip ?_
   refine vc_then ?_
   refine vc_seq ?_
   refine vc_seq ?_
   refine vc_region ?_
   refine vp ?_
   refine vp ?_
   first | refine vc_y (y_arith _ rfl (wrap64 (by omega) (by omega))) rfl ?_ | refine vp ?_
   refine vp ?_
   refine vc_y (y_cap Tryz.underlying136 rfl) rfl ?_
   refine vp ?_
   refine vc_nil ?_
   refine vc_then ?_
   first | refine vc_condP rfl (fun c31 => ?_) (fun c31 => ?_) | refine vc_condN rfl (fun c31 => ?_) (fun c31 => ?_) | refine vc_cond rfl (fun c31 => ?_) (fun c31 => ?_)
   ·skip
    refine vc_seq ?_
    refine vc_region ?_
    refine vp ?_
    refine vp ?_
    refine vc_y (y_slice sl_136 rfl 0 i h.cap rfl ⟨_, _, rfl, rfl⟩ rfl (by simp) (by omega) (by omega) (by omega)) rfl ?_
    refine vp ?_
    refine vp ?_
    first | refine vc_y (y_arith _ rfl (wrap64 (by omega) (by omega))) rfl ?_ | refine vp ?_
    refine vp ?_
    first | refine vc_y (y_arith _ rfl (wrap64 (by omega) (by omega))) rfl ?_ | refine vp ?_
    refine vc_appendZ 0 rfl (E := eStr) (h := h.cut (Enc.sz eStr) 0 i h.cap) (xs := xs.take i) (Sl.vis.imp fun w r => r.cutL hi) (⟨#[]⟩ : ByteArray) el_136_eStr Tryz.underlying3 ze_9 rfl rfl (xs.length + 1 - i) rfl (by omega) (by simp [SH.cut]; omega) (by simp; omega) (by simp; omega) rfl (fun h40 hh40 => ?_)
    refine vp ?_
    refine vc_nil ?_
    refine vc_then ?_
    refine vc_seq ?_
    refine vc_region ?_
    have hL : (xs.take i ++ List.replicate (xs.length + 1 - i) (⟨#[]⟩ : ByteArray)).length = xs.length + 1 := by simp; omega
    have hL2 : (xs.take i).length = i := by simp; omega
    refine vc_open 0 rfl (by omega) (fun b pre post hh hc2 hpost => ?_)
    obtain ⟨hha, hhl, hhc⟩ := h40
    simp only [SH.mk.injEq] at hh
    obtain ⟨rfl, rfl, _⟩ := hh
    simp only [] at hh40 hc2 hpost
    have hbd := Nat.mul_le_mul_right (Enc.sz eStr) (show i + 1 ≤ xs.length + 1 by omega)
    have hbd2 := Nat.mul_le_mul_right (Enc.sz eStr) (show (i + 1) + (xs.length - i) ≤ xs.length + 1 by omega)
    rw [Nat.add_mul, Nat.one_mul] at hbd
    rw [Nat.add_mul] at hbd2
    refine vp ?_
    refine vp ?_
    refine vc_y (y_sliceR sl_136 rfl i (xs.take i ++ List.replicate (xs.length + 1 - i) (⟨#[]⟩ : ByteArray)).length hhc (pre.length + i * Enc.sz eStr) (xs.length + 1 - i) _ ⟨_, _, rfl, rfl⟩ rfl rfl (by simp) (by omega) (by omega) (Nat.le_refl _) (by omega) rfl (by omega) rfl) rfl ?_
    refine vp ?_
    refine vc_copyRaw 0 rfl (E := eStr) [y] 2 rfl Sl.vis sl_136 rfl rfl 1 (minL (by omega)) rfl (by simp only [List.length_append, flat_length, hL] at *; omega) rfl ?_
    refine vc_cells 0 (pre ++ flat eStr (over (xs.take i ++ List.replicate (xs.length + 1 - i) (⟨#[]⟩ : ByteArray)) i [y]) ++ post) rfl (by rw [splice_flat eStr (by omega), hL, show i + [y].length - (xs.length + 1) = 0 by simp; omega]; simp) ?_
    refine vc_nil ?_
    refine vc_then ?_
    refine vc_seq ?_
    refine vc_draw (by kernel_rfl) _ none [] rfl ?_
    refine tpp 0 ?_
    refine tpp 1 ?_
    refine tpp 2 ?_
    first | refine tp 3 rfl (by exact y_arith _ rfl (wrap64 (by omega) (by omega))) ?_ | refine tpp 3 ?_
    refine tp 4 rfl (by exact y_sliceR sl_136 rfl (i + 1) (xs.take i ++ List.replicate (xs.length + 1 - i) (⟨#[]⟩ : ByteArray)).length hhc (pre.length + (i + 1) * Enc.sz eStr) (xs.length - i) _ ⟨_, _, rfl, rfl⟩ rfl rfl (by simp) (by omega) (by omega) (Nat.le_refl _) (by omega) rfl (by omega) rfl) ?_
    refine tpp 5 ?_
    refine tpp 6 ?_
    refine tp 7 rfl (by exact y_slice sl_136 rfl i h.len h.cap ⟨_, _, rfl, rfl⟩ rfl rfl (by simp) (by omega) (by omega) (by omega)) ?_
    refine va_ready [8] (by kernel_rfl) rfl ?_
    refine vo_cons rfl (fun hC0 => ?_) ?_
    ·skip
     refine vc_copyRaw 0 rfl (E := eStr) (xs.drop i) 1 rfl (Sl.vis.imp fun w r => (r.cutD hi).re) sl_136 rfl rfl (xs.length - i) (minR (show xs.length - i ≤ h.len - i by omega)) (by simp) (by simp only [List.length_append, flat_length, over_len (show i ≤ (xs.take i ++ List.replicate (xs.length + 1 - i) (⟨#[]⟩ : ByteArray)).length by omega), hL, List.length_singleton]; have := Nat.mul_le_mul_right (Enc.sz eStr) (Nat.le_max_left (xs.length + 1) (i + 1)); omega) rfl ?_
     refine vc_cells 0 (pre ++ flat eStr (xs.take i ++ y :: xs.drop i) ++ post) rfl (by rw [splice_flat eStr (by rw [over_len (by omega), hL]; omega), over_new y _ hi2, over_len (by omega), hL, List.length_drop, show i + 1 + (xs.length - i) - max (xs.length + 1) (i + [y].length) = 0 by simp; omega]; simp) ?_
     refine vc_turn 0 rfl (Sl eStr ⟨some ⟨b, pre.length, none⟩, (xs.take i ++ List.replicate (xs.length + 1 - i) (⟨#[]⟩ : ByteArray)).length, hhc⟩ (xs.take i ++ y :: xs.drop i)) (VS.of_ent (sl_close rfl (by simp; omega) (by rw [show (xs.take i ++ y :: xs.drop i).length = xs.length + 1 by simp; omega]; rw [hL] at hpost; exact hpost) (by rw [hL]; simp; omega))) ?_
     refine vc_nil ?_
     refine vc_then ?_
     refine va_kept hC0 [] rfl ?_
     refine va_done (by kernel_rfl) ?_
     refine vc_then ?_
     refine vc_seq ?_
     refine vc_region ?_
     refine vp ?_
     refine vp ?_
     refine vc_nil ?_
     refine vc_then ?_
     refine vc_ret ?_
     refine vc_thenRet ?_
     exact vc_end1 Tryz.results193 rfl _ (ent_pick [0] rfl) ⟨_, rfl, rfl⟩
    exact vo_nil
   ·skip
    refine vc_skip ?_
    refine vc_then ?_
    refine vc_seq ?_
    refine vc_region ?_
    have hcap1 : xs.length + 1 ≤ h.cap := by omega
    refine vc_open 0 rfl (by omega) (fun b pre post hh hc2 hpost => ?_)
    refine vc_open 1 rfl (by exact hvcap) (fun b2 pre2 post2 hh2 hc22 hpost2 => ?_)
    obtain ⟨hha, hhl, hhc⟩ := h
    simp only [SH.mk.injEq] at hh
    obtain ⟨rfl, rfl, _⟩ := hh
    simp only [] at hlen hcap hcap1 hc2 hpost
    simp only [SH.mk.injEq] at hh2
    obtain ⟨rfl, _, _⟩ := hh2
    have hbd := Nat.mul_le_mul_right (Enc.sz eStr) (show 1 ≤ hhc - xs.length by omega)
    have hbd2 := Nat.mul_le_mul_right (Enc.sz eStr) (show (i + 1) + (xs.length - i) ≤ xs.length + 1 by omega)
    have hbd3 := Nat.mul_le_mul_right (Enc.sz eStr) (show i + 1 ≤ xs.length by omega)
    rw [Nat.add_mul] at hbd2
    rw [Nat.add_mul] at hbd3
    rw [Nat.add_mul xs.length] at hbd2
    have hne : (pre ++ flat eStr xs ++ post).isEmpty = false := by
     rw [List.isEmpty_eq_false_iff_exists_mem]
     have h3 := Nat.mul_pos (show 0 < xs.length by omega) (eStr).pos
     exact List.exists_mem_of_length_pos (by simp only [List.length_append, flat_length]; omega)
    iterate 3 refine vp ?_
    first | refine vc_y (y_arith _ rfl (wrap64 (by omega) (by omega))) rfl ?_ | refine vp ?_
    refine vc_y (y_sliceR sl_136 rfl 0 (xs.length + 1) hhc pre.length (xs.length + 1) hhc rfl ⟨_, _, rfl, rfl⟩ rfl (by simp) (by omega) (by omega) (by omega) (by omega) (by simp) (by omega) rfl) rfl ?_
    refine vp ?_
    refine vc_nil ?_
    refine vc_then ?_
    refine vc_seq ?_
    refine vc_seq ?_
    refine vc_region ?_
    iterate 4 refine vp ?_
    first | refine vc_y (y_arith _ rfl (wrap64 (by omega) (by omega))) rfl ?_ | refine vp ?_
    refine vc_y (y_sliceR sl_136 rfl (i + 1) (xs.length + 1) hhc (pre.length + (i + 1) * Enc.sz eStr) (xs.length - i) _ ⟨_, _, rfl, rfl⟩ rfl rfl (by simp) (by omega) (by omega) (by omega) (by omega) rfl (by omega) rfl) rfl ?_
    refine vc_y (by exact y_overlaps (tR := 4) (f := 223) Tryz.func223 rfl (by kernel_rfl) (by kernel_rfl) (by kernel_rfl) sl_136 1 0 rfl rfl rfl hne rfl rfl rfl) rfl ?_
    refine vp ?_
    refine vc_nil ?_
    refine vc_then ?_
    refine vc_condT rfl ?_
    refine vc_seq ?_
    refine vc_draw (by kernel_rfl) _ none [] rfl ?_
    refine tpp 0 ?_
    refine tpp 1 ?_
    refine tpp 2 ?_
    first | refine tp 3 rfl (by exact y_arith _ rfl (wrap64 (by omega) (by omega))) ?_ | refine tpp 3 ?_
    refine tp 4 rfl (by exact y_sliceR sl_136 rfl (i + 1) (xs.length + 1) hhc (pre.length + (i + 1) * Enc.sz eStr) (xs.length - i) _ ⟨_, _, rfl, rfl⟩ rfl rfl (by simp) (by omega) (by omega) (by omega) (by omega) rfl (by omega) rfl) ?_
    refine tpp 5 ?_
    refine tpp 6 ?_
    refine tp 7 rfl (by exact y_sliceR sl_136 rfl i (xs.length + 1) hhc (pre.length + i * Enc.sz eStr) (xs.length + 1 - i) (hhc - i) ⟨_, _, rfl, rfl⟩ rfl rfl (by simp) (by omega) (by omega) (by omega) (by omega) rfl (by omega) rfl) ?_
    refine va_ready [8] (by kernel_rfl) rfl ?_
    refine vo_cons rfl (fun hC0 => ?_) ?_
    ·skip
     refine vc_copyRaw 0 rfl (E := eStr) (xs.drop i) 0 rfl (Pts.rdR (xs.drop i) i takeAll rfl rfl (by simp; omega)) sl_136 rfl rfl (xs.length - i) (minR (by omega)) (by simp) (by simp only [List.length_append, flat_length]; omega) rfl ?_
     refine vc_cells 0 (pre ++ flat eStr (over xs (i + 1) (xs.drop i)) ++ post.drop (Enc.sz eStr)) rfl (by rw [splice_flat eStr (by omega), List.length_drop, show i + 1 + (xs.length - i) - xs.length = 1 by omega, Nat.one_mul]) ?_
     refine vc_nil ?_
     refine vc_then ?_
     refine va_kept hC0 [] rfl ?_
     refine va_done (by kernel_rfl) ?_
     refine vc_then ?_
     refine vc_seq ?_
     refine vc_region ?_
     refine vp ?_
     refine vp ?_
     refine vc_y (y_sliceR sl_136 rfl i (xs.length + 1) hhc (pre.length + i * Enc.sz eStr) (xs.length + 1 - i) (hhc - i) ⟨_, _, rfl, rfl⟩ rfl rfl (by simp) (by omega) (by omega) (by omega) (by omega) rfl (by omega) rfl) rfl ?_
     refine vp ?_
     refine vc_copyRaw 0 rfl (E := eStr) [y] 1 rfl (Pts.rd hc22) sl_136 rfl rfl 1 (minL (by omega)) rfl (by simp only [List.length_append, flat_length, over_len (show i + 1 ≤ xs.length by omega), List.length_drop]; have := Nat.mul_le_mul_right (Enc.sz eStr) (Nat.le_max_left xs.length (i + 1 + (xs.length - i))); omega) rfl ?_
     refine vc_cells 0 (pre ++ flat eStr (xs.take i ++ y :: xs.drop i) ++ post.drop (Enc.sz eStr)) rfl (by rw [splice_flat eStr (by rw [over_len (by omega)]; omega), over_ins y hi2, over_len (by omega), List.length_drop, show i + [y].length - max xs.length (i + 1 + (xs.length - i)) = 0 by simp; omega]; simp) ?_
     refine vc_turn 0 rfl (Sl eStr ⟨some ⟨b, pre.length, none⟩, xs.length + 1, hhc⟩ (xs.take i ++ y :: xs.drop i)) (VS.of_ent (sl_close rfl (by simp; omega) (by rw [show (xs.take i ++ y :: xs.drop i).length = xs.length + 1 by simp; omega, List.length_drop]; have : (hhc - (xs.length + 1)) * Enc.sz eStr + 1 * Enc.sz eStr ≤ (hhc - xs.length) * Enc.sz eStr := (by rw [← Nat.add_mul]; exact Nat.mul_le_mul_right _ (by omega)); omega) (by simp; omega))) ?_
     refine vc_nil ?_
     refine vc_then ?_
     refine vc_seq ?_
     refine vc_region ?_
     refine vp ?_
     refine vp ?_
     refine vc_nil ?_
     refine vc_then ?_
     refine vc_ret ?_
     refine vc_thenRet ?_
     exact vc_end1 Tryz.results193 rfl _ (ent_pick [0] rfl) ⟨_, rfl, rfl⟩
    exact vo_nil
theorem insI_spec {h hv : SH} {xs : List Int} {i : Nat} {y : Int} (hi : i ≤ xs.length) (hb : xs.length ≤ 1000000) :
  Does Tryz.prog 194 [h.v, .int .i64 (i : Int), hv.v] [Sl eInt h xs, Sl eInt hv [y]] (fun v l => ∃ h', v = h'.v ∧ l = [Sl eInt h' (xs.take i ++ y :: xs.drop i)]) := by
 refine spec_of Tryz.func194 rfl Tryz.ntmps194 Tryz.results194 _ (by simp) fun ι F => ?_
 refine vc_see 0 rfl (Sl.vis.imp fun w r => (⟨r.len, r.cap⟩ : h.len = xs.length ∧ xs.length ≤ h.cap)) (fun hlc => ?_)
 obtain ⟨hlen, hcap⟩ := hlc
 refine vc_see 1 rfl (Sl.vis.imp fun w r => (⟨r.len, r.cap⟩ : hv.len = 1 ∧ 1 ≤ hv.cap)) (fun hlc => ?_)
 obtain ⟨hva, hvl, hvc⟩ := hv
 obtain ⟨hvl0, hvcap⟩ := hlc
 simp only [] at hvl0 hvcap
 subst hvl0
 refine vc_seq ?_
 refine vc_region ?_
 refine vp ?_
 refine vc_nil ?_
 refine vc_then ?_
 refine vc_seq ?_
 refine vc_region ?_
 refine vp ?_
 refine vp ?_
 refine vc_y (y_slice sl_72 rfl i h.len h.cap ⟨_, _, rfl, rfl⟩ rfl rfl (by simp) (by omega) (by omega) (by omega)) rfl ?_
 refine vc_nil ?_
 refine vc_then ?_
 refine vc_seq ?_
 refine vc_region ?_
 refine vp ?_
 refine vc_y (y_len Tryz.underlying72 rfl (show 1 = 1 from rfl)) rfl ?_
 refine vp ?_
 refine vc_nil ?_
 refine vc_then ?_
 refine vc_seq ?_
 refine vc_seq ?_
 refine vc_region ?_
 refine vp ?_
 refine vp ?_
 refine vc_nil ?_
 refine vc_then ?_
 first | refine vc_condP rfl (fun c16 => ?_) (fun c16 => ?_) | refine vc_condN rfl (fun c16 => ?_) (fun c16 => ?_) | refine vc_cond rfl (fun c16 => ?_) (fun c16 => ?_)
 ·skip
  simp at c16
  done
 ·skip
  refine vc_skip ?_
  refine vc_then ?_
  refine vc_seq ?_
  refine vc_region ?_
  refine vp ?_
  refine vc_y (y_len Tryz.underlying72 rfl hlen) rfl ?_
  refine vp ?_
  refine vc_nil ?_
  refine vc_then ?_
  refine vc_seq ?_
  refine vc_seq ?_
  refine vc_region ?_
  iterate 3 refine vp ?_
  refine vc_nil ?_
  refine vc_then ?_
  first | refine vc_condP rfl (fun c22 => ?_) (fun c22 => ?_) | refine vc_condN rfl (fun c22 => ?_) (fun c22 => ?_) | refine vc_cond rfl (fun c22 => ?_) (fun c22 => ?_)
  ·skip
   obtain rfl : i = xs.length := by omega
   refine vc_seq ?_
   refine vc_region ?_
   refine vp ?_
   refine vp ?_
   refine vc_append 0 rfl 1 rfl (Sl.vis) el_72_eInt Tryz.underlying72 rfl rfl (by simp; omega) (by simp; omega) rfl (fun h25 => ?_)
   refine vp ?_
   refine vc_nil ?_
   refine vc_then ?_
   refine vc_ret ?_
   refine vc_thenRet ?_
   exact vc_end1 Tryz.results194 rfl _ (ent_pick [0] rfl) ⟨h25, rfl, by simp⟩
  ·skip
   have hi2 : i < xs.length := by omega
   refine vc_skip ?_
   refine vc_then ?_
   refine vc_seq ?_
   refine vc_seq ?_
   refine vc_region ?_
   refine vp ?_
   refine vp ?_
   first | refine vc_y (y_arith _ rfl (wrap64 (by omega) (by omega))) rfl ?_ | refine vp ?_
   refine vp ?_
   refine vc_y (y_cap Tryz.underlying72 rfl) rfl ?_
   refine vp ?_
   refine vc_nil ?_
   refine vc_then ?_
   first | refine vc_condP rfl (fun c31 => ?_) (fun c31 => ?_) | refine vc_condN rfl (fun c31 => ?_) (fun c31 => ?_) | refine vc_cond rfl (fun c31 => ?_) (fun c31 => ?_)
   ·skip
    refine vc_seq ?_
    refine vc_region ?_
    refine vp ?_
    refine vp ?_
    refine vc_y (y_slice sl_72 rfl 0 i h.cap rfl ⟨_, _, rfl, rfl⟩ rfl (by simp) (by omega) (by omega) (by omega)) rfl ?_
    refine vp ?_
    refine vp ?_
    first | refine vc_y (y_arith _ rfl (wrap64 (by omega) (by omega))) rfl ?_ | refine vp ?_
    refine vp ?_
    first | refine vc_y (y_arith _ rfl (wrap64 (by omega) (by omega))) rfl ?_ | refine vp ?_
    refine vc_appendZ 0 rfl (E := eInt) (h := h.cut (Enc.sz eInt) 0 i h.cap) (xs := xs.take i) (Sl.vis.imp fun w r => r.cutL hi) (0 : Int) el_72_eInt Tryz.underlying3 ze_3 rfl rfl (xs.length + 1 - i) rfl (by omega) (by simp [SH.cut]; omega) (by simp; omega) (by simp; omega) rfl (fun h40 hh40 => ?_)
    refine vp ?_
    refine vc_nil ?_
    refine vc_then ?_
    refine vc_seq ?_
    refine vc_region ?_
    have hL : (xs.take i ++ List.replicate (xs.length + 1 - i) (0 : Int)).length = xs.length + 1 := by simp; omega
    have hL2 : (xs.take i).length = i := by simp; omega
    refine vc_open 0 rfl (by omega) (fun b pre post hh hc2 hpost => ?_)
    obtain ⟨hha, hhl, hhc⟩ := h40
    simp only [SH.mk.injEq] at hh
    obtain ⟨rfl, rfl, _⟩ := hh
    simp only [] at hh40 hc2 hpost
    have hbd := Nat.mul_le_mul_right (Enc.sz eInt) (show i + 1 ≤ xs.length + 1 by omega)
    have hbd2 := Nat.mul_le_mul_right (Enc.sz eInt) (show (i + 1) + (xs.length - i) ≤ xs.length + 1 by omega)
    rw [Nat.add_mul, Nat.one_mul] at hbd
    rw [Nat.add_mul] at hbd2
    refine vp ?_
    refine vp ?_
    refine vc_y (y_sliceR sl_72 rfl i (xs.take i ++ List.replicate (xs.length + 1 - i) (0 : Int)).length hhc (pre.length + i * Enc.sz eInt) (xs.length + 1 - i) _ ⟨_, _, rfl, rfl⟩ rfl rfl (by simp) (by omega) (by omega) (Nat.le_refl _) (by omega) rfl (by omega) rfl) rfl ?_
    refine vp ?_
    refine vc_copyRaw 0 rfl (E := eInt) [y] 2 rfl Sl.vis sl_72 rfl rfl 1 (minL (by omega)) rfl (by simp only [List.length_append, flat_length, hL] at *; omega) rfl ?_
    refine vc_cells 0 (pre ++ flat eInt (over (xs.take i ++ List.replicate (xs.length + 1 - i) (0 : Int)) i [y]) ++ post) rfl (by rw [splice_flat eInt (by omega), hL, show i + [y].length - (xs.length + 1) = 0 by simp; omega]; simp) ?_
    refine vc_nil ?_
    refine vc_then ?_
    refine vc_seq ?_
    refine vc_draw (by kernel_rfl) _ none [] rfl ?_
    refine tpp 0 ?_
    refine tpp 1 ?_
    refine tpp 2 ?_
    first | refine tp 3 rfl (by exact y_arith _ rfl (wrap64 (by omega) (by omega))) ?_ | refine tpp 3 ?_
    refine tp 4 rfl (by exact y_sliceR sl_72 rfl (i + 1) (xs.take i ++ List.replicate (xs.length + 1 - i) (0 : Int)).length hhc (pre.length + (i + 1) * Enc.sz eInt) (xs.length - i) _ ⟨_, _, rfl, rfl⟩ rfl rfl (by simp) (by omega) (by omega) (Nat.le_refl _) (by omega) rfl (by omega) rfl) ?_
    refine tpp 5 ?_
    refine tpp 6 ?_
    refine tp 7 rfl (by exact y_slice sl_72 rfl i h.len h.cap ⟨_, _, rfl, rfl⟩ rfl rfl (by simp) (by omega) (by omega) (by omega)) ?_
    refine va_ready [8] (by kernel_rfl) rfl ?_
    refine vo_cons rfl (fun hC0 => ?_) ?_
    ·skip
     refine vc_copyRaw 0 rfl (E := eInt) (xs.drop i) 1 rfl (Sl.vis.imp fun w r => (r.cutD hi).re) sl_72 rfl rfl (xs.length - i) (minR (show xs.length - i ≤ h.len - i by omega)) (by simp) (by simp only [List.length_append, flat_length, over_len (show i ≤ (xs.take i ++ List.replicate (xs.length + 1 - i) (0 : Int)).length by omega), hL, List.length_singleton]; have := Nat.mul_le_mul_right (Enc.sz eInt) (Nat.le_max_left (xs.length + 1) (i + 1)); omega) rfl ?_
     refine vc_cells 0 (pre ++ flat eInt (xs.take i ++ y :: xs.drop i) ++ post) rfl (by rw [splice_flat eInt (by rw [over_len (by omega), hL]; omega), over_new y _ hi2, over_len (by omega), hL, List.length_drop, show i + 1 + (xs.length - i) - max (xs.length + 1) (i + [y].length) = 0 by simp; omega]; simp) ?_
     refine vc_turn 0 rfl (Sl eInt ⟨some ⟨b, pre.length, none⟩, (xs.take i ++ List.replicate (xs.length + 1 - i) (0 : Int)).length, hhc⟩ (xs.take i ++ y :: xs.drop i)) (VS.of_ent (sl_close rfl (by simp; omega) (by rw [show (xs.take i ++ y :: xs.drop i).length = xs.length + 1 by simp; omega]; rw [hL] at hpost; exact hpost) (by rw [hL]; simp; omega))) ?_
     refine vc_nil ?_
     refine vc_then ?_
     refine va_kept hC0 [] rfl ?_
     refine va_done (by kernel_rfl) ?_
     refine vc_then ?_
     refine vc_seq ?_
     refine vc_region ?_
     refine vp ?_
     refine vp ?_
     refine vc_nil ?_
     refine vc_then ?_
     refine vc_ret ?_
     refine vc_thenRet ?_
     exact vc_end1 Tryz.results194 rfl _ (ent_pick [0] rfl) ⟨_, rfl, rfl⟩
    exact vo_nil
   ·skip
    refine vc_skip ?_
    refine vc_then ?_
    refine vc_seq ?_
    refine vc_region ?_
    have hcap1 : xs.length + 1 ≤ h.cap := by omega
    refine vc_open 0 rfl (by omega) (fun b pre post hh hc2 hpost => ?_)
    refine vc_open 1 rfl (by exact hvcap) (fun b2 pre2 post2 hh2 hc22 hpost2 => ?_)
    obtain ⟨hha, hhl, hhc⟩ := h
    simp only [SH.mk.injEq] at hh
    obtain ⟨rfl, rfl, _⟩ := hh
    simp only [] at hlen hcap hcap1 hc2 hpost
    simp only [SH.mk.injEq] at hh2
    obtain ⟨rfl, _, _⟩ := hh2
    have hbd := Nat.mul_le_mul_right (Enc.sz eInt) (show 1 ≤ hhc - xs.length by omega)
    have hbd2 := Nat.mul_le_mul_right (Enc.sz eInt) (show (i + 1) + (xs.length - i) ≤ xs.length + 1 by omega)
    have hbd3 := Nat.mul_le_mul_right (Enc.sz eInt) (show i + 1 ≤ xs.length by omega)
    rw [Nat.add_mul] at hbd2
    rw [Nat.add_mul] at hbd3
    rw [Nat.add_mul xs.length] at hbd2
    have hne : (pre ++ flat eInt xs ++ post).isEmpty = false := by
     rw [List.isEmpty_eq_false_iff_exists_mem]
     have h3 := Nat.mul_pos (show 0 < xs.length by omega) (eInt).pos
     exact List.exists_mem_of_length_pos (by simp only [List.length_append, flat_length]; omega)
    iterate 3 refine vp ?_
    first | refine vc_y (y_arith _ rfl (wrap64 (by omega) (by omega))) rfl ?_ | refine vp ?_
    refine vc_y (y_sliceR sl_72 rfl 0 (xs.length + 1) hhc pre.length (xs.length + 1) hhc rfl ⟨_, _, rfl, rfl⟩ rfl (by simp) (by omega) (by omega) (by omega) (by omega) (by simp) (by omega) rfl) rfl ?_
    refine vp ?_
    refine vc_nil ?_
    refine vc_then ?_
    refine vc_seq ?_
    refine vc_seq ?_
    refine vc_region ?_
    iterate 4 refine vp ?_
    first | refine vc_y (y_arith _ rfl (wrap64 (by omega) (by omega))) rfl ?_ | refine vp ?_
    refine vc_y (y_sliceR sl_72 rfl (i + 1) (xs.length + 1) hhc (pre.length + (i + 1) * Enc.sz eInt) (xs.length - i) _ ⟨_, _, rfl, rfl⟩ rfl rfl (by simp) (by omega) (by omega) (by omega) (by omega) rfl (by omega) rfl) rfl ?_
    refine vc_y (by exact y_overlaps (tR := 4) (f := 225) Tryz.func225 rfl (by kernel_rfl) (by kernel_rfl) (by kernel_rfl) sl_72 1 0 rfl rfl rfl hne rfl rfl rfl) rfl ?_
    refine vp ?_
    refine vc_nil ?_
    refine vc_then ?_
    refine vc_condT rfl ?_
    refine vc_seq ?_
    refine vc_draw (by kernel_rfl) _ none [] rfl ?_
    refine tpp 0 ?_
    refine tpp 1 ?_
    refine tpp 2 ?_
    first | refine tp 3 rfl (by exact y_arith _ rfl (wrap64 (by omega) (by omega))) ?_ | refine tpp 3 ?_
    refine tp 4 rfl (by exact y_sliceR sl_72 rfl (i + 1) (xs.length + 1) hhc (pre.length + (i + 1) * Enc.sz eInt) (xs.length - i) _ ⟨_, _, rfl, rfl⟩ rfl rfl (by simp) (by omega) (by omega) (by omega) (by omega) rfl (by omega) rfl) ?_
    refine tpp 5 ?_
    refine tpp 6 ?_
    refine tp 7 rfl (by exact y_sliceR sl_72 rfl i (xs.length + 1) hhc (pre.length + i * Enc.sz eInt) (xs.length + 1 - i) (hhc - i) ⟨_, _, rfl, rfl⟩ rfl rfl (by simp) (by omega) (by omega) (by omega) (by omega) rfl (by omega) rfl) ?_
    refine va_ready [8] (by kernel_rfl) rfl ?_
    refine vo_cons rfl (fun hC0 => ?_) ?_
    ·skip
     refine vc_copyRaw 0 rfl (E := eInt) (xs.drop i) 0 rfl (Pts.rdR (xs.drop i) i takeAll rfl rfl (by simp; omega)) sl_72 rfl rfl (xs.length - i) (minR (by omega)) (by simp) (by simp only [List.length_append, flat_length]; omega) rfl ?_
     refine vc_cells 0 (pre ++ flat eInt (over xs (i + 1) (xs.drop i)) ++ post.drop (Enc.sz eInt)) rfl (by rw [splice_flat eInt (by omega), List.length_drop, show i + 1 + (xs.length - i) - xs.length = 1 by omega, Nat.one_mul]) ?_
     refine vc_nil ?_
     refine vc_then ?_
     refine va_kept hC0 [] rfl ?_
     refine va_done (by kernel_rfl) ?_
     refine vc_then ?_
     refine vc_seq ?_
     refine vc_region ?_
     refine vp ?_
     refine vp ?_
     refine vc_y (y_sliceR sl_72 rfl i (xs.length + 1) hhc (pre.length + i * Enc.sz eInt) (xs.length + 1 - i) (hhc - i) ⟨_, _, rfl, rfl⟩ rfl rfl (by simp) (by omega) (by omega) (by omega) (by omega) rfl (by omega) rfl) rfl ?_
     refine vp ?_
     refine vc_copyRaw 0 rfl (E := eInt) [y] 1 rfl (Pts.rd hc22) sl_72 rfl rfl 1 (minL (by omega)) rfl (by simp only [List.length_append, flat_length, over_len (show i + 1 ≤ xs.length by omega), List.length_drop]; have := Nat.mul_le_mul_right (Enc.sz eInt) (Nat.le_max_left xs.length (i + 1 + (xs.length - i))); omega) rfl ?_
     refine vc_cells 0 (pre ++ flat eInt (xs.take i ++ y :: xs.drop i) ++ post.drop (Enc.sz eInt)) rfl (by rw [splice_flat eInt (by rw [over_len (by omega)]; omega), over_ins y hi2, over_len (by omega), List.length_drop, show i + [y].length - max xs.length (i + 1 + (xs.length - i)) = 0 by simp; omega]; simp) ?_
     refine vc_turn 0 rfl (Sl eInt ⟨some ⟨b, pre.length, none⟩, xs.length + 1, hhc⟩ (xs.take i ++ y :: xs.drop i)) (VS.of_ent (sl_close rfl (by simp; omega) (by rw [show (xs.take i ++ y :: xs.drop i).length = xs.length + 1 by simp; omega, List.length_drop]; have : (hhc - (xs.length + 1)) * Enc.sz eInt + 1 * Enc.sz eInt ≤ (hhc - xs.length) * Enc.sz eInt := (by rw [← Nat.add_mul]; exact Nat.mul_le_mul_right _ (by omega)); omega) (by simp; omega))) ?_
     refine vc_nil ?_
     refine vc_then ?_
     refine vc_seq ?_
     refine vc_region ?_
     refine vp ?_
     refine vp ?_
     refine vc_nil ?_
     refine vc_then ?_
     refine vc_ret ?_
     refine vc_thenRet ?_
     exact vc_end1 Tryz.results194 rfl _ (ent_pick [0] rfl) ⟨_, rfl, rfl⟩
    exact vo_nil
theorem insN_spec {h hv : SH} {xs : List Nat} {i : Nat} {y : Nat} (hi : i ≤ xs.length) (hb : xs.length ≤ 1000000) :
  Does Tryz.prog 194 [h.v, .int .i64 (i : Int), hv.v] [Sl eNat h xs, Sl eNat hv [y]] (fun v l => ∃ h', v = h'.v ∧ l = [Sl eNat h' (xs.take i ++ y :: xs.drop i)]) := by
 refine spec_of Tryz.func194 rfl Tryz.ntmps194 Tryz.results194 _ (by simp) fun ι F => ?_
 refine vc_see 0 rfl (Sl.vis.imp fun w r => (⟨r.len, r.cap⟩ : h.len = xs.length ∧ xs.length ≤ h.cap)) (fun hlc => ?_)
 obtain ⟨hlen, hcap⟩ := hlc
 refine vc_see 1 rfl (Sl.vis.imp fun w r => (⟨r.len, r.cap⟩ : hv.len = 1 ∧ 1 ≤ hv.cap)) (fun hlc => ?_)
 obtain ⟨hva, hvl, hvc⟩ := hv
 obtain ⟨hvl0, hvcap⟩ := hlc
 simp only [] at hvl0 hvcap
 subst hvl0
 refine vc_seq ?_
 refine vc_region ?_
 refine vp ?_
 refine vc_nil ?_
 refine vc_then ?_
 refine vc_seq ?_
 refine vc_region ?_
 refine vp ?_
 refine vp ?_
 refine vc_y (y_slice sl_72 rfl i h.len h.cap ⟨_, _, rfl, rfl⟩ rfl rfl (by simp) (by omega) (by omega) (by omega)) rfl ?_
 refine vc_nil ?_
 refine vc_then ?_
 refine vc_seq ?_
 refine vc_region ?_
 refine vp ?_
 refine vc_y (y_len Tryz.underlying72 rfl (show 1 = 1 from rfl)) rfl ?_
 refine vp ?_
 refine vc_nil ?_
 refine vc_then ?_
 refine vc_seq ?_
 refine vc_seq ?_
 refine vc_region ?_
 refine vp ?_
 refine vp ?_
 refine vc_nil ?_
 refine vc_then ?_
 first | refine vc_condP rfl (fun c16 => ?_) (fun c16 => ?_) | refine vc_condN rfl (fun c16 => ?_) (fun c16 => ?_) | refine vc_cond rfl (fun c16 => ?_) (fun c16 => ?_)
 ·skip
  simp at c16
  done
 ·skip
  refine vc_skip ?_
  refine vc_then ?_
  refine vc_seq ?_
  refine vc_region ?_
  refine vp ?_
  refine vc_y (y_len Tryz.underlying72 rfl hlen) rfl ?_
  refine vp ?_
  refine vc_nil ?_
  refine vc_then ?_
  refine vc_seq ?_
  refine vc_seq ?_
  refine vc_region ?_
  iterate 3 refine vp ?_
  refine vc_nil ?_
  refine vc_then ?_
  first | refine vc_condP rfl (fun c22 => ?_) (fun c22 => ?_) | refine vc_condN rfl (fun c22 => ?_) (fun c22 => ?_) | refine vc_cond rfl (fun c22 => ?_) (fun c22 => ?_)
  ·skip
   obtain rfl : i = xs.length := by omega
   refine vc_seq ?_
   refine vc_region ?_
   refine vp ?_
   refine vp ?_
   refine vc_append 0 rfl 1 rfl (Sl.vis) el_72_eNat Tryz.underlying72 rfl rfl (by simp; omega) (by simp; omega) rfl (fun h25 => ?_)
   refine vp ?_
   refine vc_nil ?_
   refine vc_then ?_
   refine vc_ret ?_
   refine vc_thenRet ?_
   exact vc_end1 Tryz.results194 rfl _ (ent_pick [0] rfl) ⟨h25, rfl, by simp⟩
  ·skip
   have hi2 : i < xs.length := by omega
   refine vc_skip ?_
   refine vc_then ?_
   refine vc_seq ?_
   refine vc_seq ?_
   refine vc_region ?_
   refine vp ?_
   refine vp ?_
   first | refine vc_y (y_arith _ rfl (wrap64 (by omega) (by omega))) rfl ?_ | refine vp ?_
   refine vp ?_
   refine vc_y (y_cap Tryz.underlying72 rfl) rfl ?_
   refine vp ?_
   refine vc_nil ?_
   refine vc_then ?_
   first | refine vc_condP rfl (fun c31 => ?_) (fun c31 => ?_) | refine vc_condN rfl (fun c31 => ?_) (fun c31 => ?_) | refine vc_cond rfl (fun c31 => ?_) (fun c31 => ?_)
   ·skip
    refine vc_seq ?_
    refine vc_region ?_
    refine vp ?_
    refine vp ?_
    refine vc_y (y_slice sl_72 rfl 0 i h.cap rfl ⟨_, _, rfl, rfl⟩ rfl (by simp) (by omega) (by omega) (by omega)) rfl ?_
    refine vp ?_
    refine vp ?_
    first | refine vc_y (y_arith _ rfl (wrap64 (by omega) (by omega))) rfl ?_ | refine vp ?_
    refine vp ?_
    first | refine vc_y (y_arith _ rfl (wrap64 (by omega) (by omega))) rfl ?_ | refine vp ?_
    refine vc_appendZ 0 rfl (E := eNat) (h := h.cut (Enc.sz eNat) 0 i h.cap) (xs := xs.take i) (Sl.vis.imp fun w r => r.cutL hi) (0 : Nat) el_72_eNat Tryz.underlying3 ze_3 rfl rfl (xs.length + 1 - i) rfl (by omega) (by simp [SH.cut]; omega) (by simp; omega) (by simp; omega) rfl (fun h40 hh40 => ?_)
    refine vp ?_
    refine vc_nil ?_
    refine vc_then ?_
    refine vc_seq ?_
    refine vc_region ?_
    have hL : (xs.take i ++ List.replicate (xs.length + 1 - i) (0 : Nat)).length = xs.length + 1 := by simp; omega
    have hL2 : (xs.take i).length = i := by simp; omega
    refine vc_open 0 rfl (by omega) (fun b pre post hh hc2 hpost => ?_)
    obtain ⟨hha, hhl, hhc⟩ := h40
    simp only [SH.mk.injEq] at hh
    obtain ⟨rfl, rfl, _⟩ := hh
    simp only [] at hh40 hc2 hpost
    have hbd := Nat.mul_le_mul_right (Enc.sz eNat) (show i + 1 ≤ xs.length + 1 by omega)
    have hbd2 := Nat.mul_le_mul_right (Enc.sz eNat) (show (i + 1) + (xs.length - i) ≤ xs.length + 1 by omega)
    rw [Nat.add_mul, Nat.one_mul] at hbd
    rw [Nat.add_mul] at hbd2
    refine vp ?_
    refine vp ?_
    refine vc_y (y_sliceR sl_72 rfl i (xs.take i ++ List.replicate (xs.length + 1 - i) (0 : Nat)).length hhc (pre.length + i * Enc.sz eNat) (xs.length + 1 - i) _ ⟨_, _, rfl, rfl⟩ rfl rfl (by simp) (by omega) (by omega) (Nat.le_refl _) (by omega) rfl (by omega) rfl) rfl ?_
    refine vp ?_
    refine vc_copyRaw 0 rfl (E := eNat) [y] 2 rfl Sl.vis sl_72 rfl rfl 1 (minL (by omega)) rfl (by simp only [List.length_append, flat_length, hL] at *; omega) rfl ?_
    refine vc_cells 0 (pre ++ flat eNat (over (xs.take i ++ List.replicate (xs.length + 1 - i) (0 : Nat)) i [y]) ++ post) rfl (by rw [splice_flat eNat (by omega), hL, show i + [y].length - (xs.length + 1) = 0 by simp; omega]; simp) ?_
    refine vc_nil ?_
    refine vc_then ?_
    refine vc_seq ?_
    refine vc_draw (by kernel_rfl) _ none [] rfl ?_
    refine tpp 0 ?_
    refine tpp 1 ?_
    refine tpp 2 ?_
    first | refine tp 3 rfl (by exact y_arith _ rfl (wrap64 (by omega) (by omega))) ?_ | refine tpp 3 ?_
    refine tp 4 rfl (by exact y_sliceR sl_72 rfl (i + 1) (xs.take i ++ List.replicate (xs.length + 1 - i) (0 : Nat)).length hhc (pre.length + (i + 1) * Enc.sz eNat) (xs.length - i) _ ⟨_, _, rfl, rfl⟩ rfl rfl (by simp) (by omega) (by omega) (Nat.le_refl _) (by omega) rfl (by omega) rfl) ?_
    refine tpp 5 ?_
    refine tpp 6 ?_
    refine tp 7 rfl (by exact y_slice sl_72 rfl i h.len h.cap ⟨_, _, rfl, rfl⟩ rfl rfl (by simp) (by omega) (by omega) (by omega)) ?_
    refine va_ready [8] (by kernel_rfl) rfl ?_
    refine vo_cons rfl (fun hC0 => ?_) ?_
    ·skip
     refine vc_copyRaw 0 rfl (E := eNat) (xs.drop i) 1 rfl (Sl.vis.imp fun w r => (r.cutD hi).re) sl_72 rfl rfl (xs.length - i) (minR (show xs.length - i ≤ h.len - i by omega)) (by simp) (by simp only [List.length_append, flat_length, over_len (show i ≤ (xs.take i ++ List.replicate (xs.length + 1 - i) (0 : Nat)).length by omega), hL, List.length_singleton]; have := Nat.mul_le_mul_right (Enc.sz eNat) (Nat.le_max_left (xs.length + 1) (i + 1)); omega) rfl ?_
     refine vc_cells 0 (pre ++ flat eNat (xs.take i ++ y :: xs.drop i) ++ post) rfl (by rw [splice_flat eNat (by rw [over_len (by omega), hL]; omega), over_new y _ hi2, over_len (by omega), hL, List.length_drop, show i + 1 + (xs.length - i) - max (xs.length + 1) (i + [y].length) = 0 by simp; omega]; simp) ?_
     refine vc_turn 0 rfl (Sl eNat ⟨some ⟨b, pre.length, none⟩, (xs.take i ++ List.replicate (xs.length + 1 - i) (0 : Nat)).length, hhc⟩ (xs.take i ++ y :: xs.drop i)) (VS.of_ent (sl_close rfl (by simp; omega) (by rw [show (xs.take i ++ y :: xs.drop i).length = xs.length + 1 by simp; omega]; rw [hL] at hpost; exact hpost) (by rw [hL]; simp; omega))) ?_
     refine vc_nil ?_
     refine vc_then ?_
     refine va_kept hC0 [] rfl ?_
     refine va_done (by kernel_rfl) ?_
     refine vc_then ?_
     refine vc_seq ?_
     refine vc_region ?_
     refine vp ?_
     refine vp ?_
     refine vc_nil ?_
     refine vc_then ?_
     refine vc_ret ?_
     refine vc_thenRet ?_
     exact vc_end1 Tryz.results194 rfl _ (ent_pick [0] rfl) ⟨_, rfl, rfl⟩
    exact vo_nil
   ·skip
    refine vc_skip ?_
    refine vc_then ?_
    refine vc_seq ?_
    refine vc_region ?_
    have hcap1 : xs.length + 1 ≤ h.cap := by omega
    refine vc_open 0 rfl (by omega) (fun b pre post hh hc2 hpost => ?_)
    refine vc_open 1 rfl (by exact hvcap) (fun b2 pre2 post2 hh2 hc22 hpost2 => ?_)
    obtain ⟨hha, hhl, hhc⟩ := h
    simp only [SH.mk.injEq] at hh
    obtain ⟨rfl, rfl, _⟩ := hh
    simp only [] at hlen hcap hcap1 hc2 hpost
    simp only [SH.mk.injEq] at hh2
    obtain ⟨rfl, _, _⟩ := hh2
    have hbd := Nat.mul_le_mul_right (Enc.sz eNat) (show 1 ≤ hhc - xs.length by omega)
    have hbd2 := Nat.mul_le_mul_right (Enc.sz eNat) (show (i + 1) + (xs.length - i) ≤ xs.length + 1 by omega)
    have hbd3 := Nat.mul_le_mul_right (Enc.sz eNat) (show i + 1 ≤ xs.length by omega)
    rw [Nat.add_mul] at hbd2
    rw [Nat.add_mul] at hbd3
    rw [Nat.add_mul xs.length] at hbd2
    have hne : (pre ++ flat eNat xs ++ post).isEmpty = false := by
     rw [List.isEmpty_eq_false_iff_exists_mem]
     have h3 := Nat.mul_pos (show 0 < xs.length by omega) (eNat).pos
     exact List.exists_mem_of_length_pos (by simp only [List.length_append, flat_length]; omega)
    iterate 3 refine vp ?_
    first | refine vc_y (y_arith _ rfl (wrap64 (by omega) (by omega))) rfl ?_ | refine vp ?_
    refine vc_y (y_sliceR sl_72 rfl 0 (xs.length + 1) hhc pre.length (xs.length + 1) hhc rfl ⟨_, _, rfl, rfl⟩ rfl (by simp) (by omega) (by omega) (by omega) (by omega) (by simp) (by omega) rfl) rfl ?_
    refine vp ?_
    refine vc_nil ?_
    refine vc_then ?_
    refine vc_seq ?_
    refine vc_seq ?_
    refine vc_region ?_
    iterate 4 refine vp ?_
    first | refine vc_y (y_arith _ rfl (wrap64 (by omega) (by omega))) rfl ?_ | refine vp ?_
    refine vc_y (y_sliceR sl_72 rfl (i + 1) (xs.length + 1) hhc (pre.length + (i + 1) * Enc.sz eNat) (xs.length - i) _ ⟨_, _, rfl, rfl⟩ rfl rfl (by simp) (by omega) (by omega) (by omega) (by omega) rfl (by omega) rfl) rfl ?_
    refine vc_y (by exact y_overlaps (tR := 4) (f := 225) Tryz.func225 rfl (by kernel_rfl) (by kernel_rfl) (by kernel_rfl) sl_72 1 0 rfl rfl rfl hne rfl rfl rfl) rfl ?_
    refine vp ?_
    refine vc_nil ?_
    refine vc_then ?_
    refine vc_condT rfl ?_
    refine vc_seq ?_
    refine vc_draw (by kernel_rfl) _ none [] rfl ?_
    refine tpp 0 ?_
    refine tpp 1 ?_
    refine tpp 2 ?_
    first | refine tp 3 rfl (by exact y_arith _ rfl (wrap64 (by omega) (by omega))) ?_ | refine tpp 3 ?_
    refine tp 4 rfl (by exact y_sliceR sl_72 rfl (i + 1) (xs.length + 1) hhc (pre.length + (i + 1) * Enc.sz eNat) (xs.length - i) _ ⟨_, _, rfl, rfl⟩ rfl rfl (by simp) (by omega) (by omega) (by omega) (by omega) rfl (by omega) rfl) ?_
    refine tpp 5 ?_
    refine tpp 6 ?_
    refine tp 7 rfl (by exact y_sliceR sl_72 rfl i (xs.length + 1) hhc (pre.length + i * Enc.sz eNat) (xs.length + 1 - i) (hhc - i) ⟨_, _, rfl, rfl⟩ rfl rfl (by simp) (by omega) (by omega) (by omega) (by omega) rfl (by omega) rfl) ?_
    refine va_ready [8] (by kernel_rfl) rfl ?_
    refine vo_cons rfl (fun hC0 => ?_) ?_
    ·skip
     refine vc_copyRaw 0 rfl (E := eNat) (xs.drop i) 0 rfl (Pts.rdR (xs.drop i) i takeAll rfl rfl (by simp; omega)) sl_72 rfl rfl (xs.length - i) (minR (by omega)) (by simp) (by simp only [List.length_append, flat_length]; omega) rfl ?_
     refine vc_cells 0 (pre ++ flat eNat (over xs (i + 1) (xs.drop i)) ++ post.drop (Enc.sz eNat)) rfl (by rw [splice_flat eNat (by omega), List.length_drop, show i + 1 + (xs.length - i) - xs.length = 1 by omega, Nat.one_mul]) ?_
     refine vc_nil ?_
     refine vc_then ?_
     refine va_kept hC0 [] rfl ?_
     refine va_done (by kernel_rfl) ?_
     refine vc_then ?_
     refine vc_seq ?_
     refine vc_region ?_
     refine vp ?_
     refine vp ?_
     refine vc_y (y_sliceR sl_72 rfl i (xs.length + 1) hhc (pre.length + i * Enc.sz eNat) (xs.length + 1 - i) (hhc - i) ⟨_, _, rfl, rfl⟩ rfl rfl (by simp) (by omega) (by omega) (by omega) (by omega) rfl (by omega) rfl) rfl ?_
     refine vp ?_
     refine vc_copyRaw 0 rfl (E := eNat) [y] 1 rfl (Pts.rd hc22) sl_72 rfl rfl 1 (minL (by omega)) rfl (by simp only [List.length_append, flat_length, over_len (show i + 1 ≤ xs.length by omega), List.length_drop]; have := Nat.mul_le_mul_right (Enc.sz eNat) (Nat.le_max_left xs.length (i + 1 + (xs.length - i))); omega) rfl ?_
     refine vc_cells 0 (pre ++ flat eNat (xs.take i ++ y :: xs.drop i) ++ post.drop (Enc.sz eNat)) rfl (by rw [splice_flat eNat (by rw [over_len (by omega)]; omega), over_ins y hi2, over_len (by omega), List.length_drop, show i + [y].length - max xs.length (i + 1 + (xs.length - i)) = 0 by simp; omega]; simp) ?_
     refine vc_turn 0 rfl (Sl eNat ⟨some ⟨b, pre.length, none⟩, xs.length + 1, hhc⟩ (xs.take i ++ y :: xs.drop i)) (VS.of_ent (sl_close rfl (by simp; omega) (by rw [show (xs.take i ++ y :: xs.drop i).length = xs.length + 1 by simp; omega, List.length_drop]; have : (hhc - (xs.length + 1)) * Enc.sz eNat + 1 * Enc.sz eNat ≤ (hhc - xs.length) * Enc.sz eNat := (by rw [← Nat.add_mul]; exact Nat.mul_le_mul_right _ (by omega)); omega) (by simp; omega))) ?_
     refine vc_nil ?_
     refine vc_then ?_
     refine vc_seq ?_
     refine vc_region ?_
     refine vp ?_
     refine vp ?_
     refine vc_nil ?_
     refine vc_then ?_
     refine vc_ret ?_
     refine vc_thenRet ?_
     exact vc_end1 Tryz.results194 rfl _ (ent_pick [0] rfl) ⟨_, rfl, rfl⟩
    exact vo_nil
end Go.Proofs.YtcpbibdbahfgaaaGreat
/-
 Concats.
-/
set_option linter.unusedVariables false
set_option linter.unusedSimpArgs false
set_option autoImplicit false
namespace Go.Proofs.YtcpbibdbahfgaaaGreat
open Go.Eng
namespace FSl4
theorem el_136_eStr : TyEl Tryz.prog 136 eStr 16 := ⟨Tryz.underlying136, .string ⟨#[]⟩, by kernel_rfl, rfl⟩
theorem ze_9 : (Tryz.prog.info? 9).map (·.zero) = some (some (.string ⟨#[]⟩)) := by kernel_rfl
theorem sl_136 : TySl Tryz.prog 136 9 1 := ⟨Tryz.underlying136, by kernel_rfl⟩
theorem el_72_eInt : TyEl Tryz.prog 72 eInt 8 := ⟨Tryz.underlying72, .int .i64 0, by kernel_rfl, rfl⟩
theorem ze_3 : (Tryz.prog.info? 3).map (·.zero) = some (some (.int .i64 0)) := by kernel_rfl
theorem sl_72 : TySl Tryz.prog 72 3 1 := ⟨Tryz.underlying72, by kernel_rfl⟩
theorem el_72_eNat : TyEl Tryz.prog 72 eNat 8 := ⟨Tryz.underlying72, .int .i64 0, by kernel_rfl, rfl⟩
theorem sl_295 : TySl Tryz.prog 295 136 1 := ⟨Tryz.underlying295, by kernel_rfl⟩
theorem one_136 : TyOne Tryz.prog 136 := ⟨⟨_, Tryz.underlying136, rfl⟩, by kernel_rfl⟩
theorem ca_236 : Callable Tryz.prog 236 := ⟨_, _, Tryz.func236, rfl, rfl⟩
theorem sl_297 : TySl Tryz.prog 297 72 1 := ⟨Tryz.underlying297, by kernel_rfl⟩
theorem one_72 : TyOne Tryz.prog 72 := ⟨⟨_, Tryz.underlying72, rfl⟩, by kernel_rfl⟩
theorem ca_237 : Callable Tryz.prog 237 := ⟨_, _, Tryz.func237, rfl, rfl⟩
end FSl4
open FSl4
def eSl (t : Nat) : Enc SH := ⟨t, 1, fun h => [h.v], fun _ => rfl, fun _ c h => by simp at h; subst h; rfl, by decide⟩
theorem growS_spec {m : Nat} (hb : m ≤ 4000000) :
  Does Tryz.prog 236 [nilS.v, .int .i64 (m : Int)] [] (fun v l => ∃ h', v = h'.v ∧ l = [Sl eStr h' []]) := by
 refine spec_of Tryz.func236 rfl Tryz.ntmps236 Tryz.results236 _ (by simp) fun ι F => ?_
 refine vc_seq ?_
 refine vc_region ?_
 refine vp ?_
 refine vc_nil ?_
 refine vc_then ?_
 refine vc_seq ?_
 refine vc_seq ?_
 refine vc_region ?_
 refine vp ?_
 refine vp ?_
 refine vc_nil ?_
 refine vc_then ?_
 first | refine vc_condP rfl (fun c6 => ?_) (fun c6 => ?_) | refine vc_condN rfl (fun c6 => ?_) (fun c6 => ?_) | refine vc_cond rfl (fun c6 => ?_) (fun c6 => ?_)
 ·skip
  exact absurd c6 (by omega)
 ·skip
  refine vc_skip ?_
  refine vc_then ?_
  refine vc_seq ?_
  refine vc_seq ?_
  refine vc_region ?_
  refine vp ?_
  refine vp ?_
  refine vc_y (y_cap Tryz.underlying136 (h := nilS) rfl) rfl ?_
  refine vp ?_
  refine vc_y (y_len Tryz.underlying136 (h := nilS) rfl rfl) rfl ?_
  refine vc_y (y_arith (0 : Int) rfl (by decide)) rfl ?_
  refine vc_y (y_arith (m : Int) rfl (by rw [Int.sub_zero]; exact wrap64 (by omega) (by omega))) rfl ?_
  refine vp ?_
  refine vc_nil ?_
  refine vc_then ?_
  refine vc_seq ?_
  refine vc_region ?_
  refine vp ?_
  refine vp ?_
  refine vc_nil ?_
  refine vc_then ?_
  first | refine vc_condP rfl (fun c16 => ?_) (fun c16 => ?_) | refine vc_condN rfl (fun c16 => ?_) (fun c16 => ?_) | refine vc_cond rfl (fun c16 => ?_) (fun c16 => ?_)
  ·skip
   refine vc_region ?_
   refine vc_ent (l' := Sl eStr nilS [] :: _) sl_new ?_
   refine vp ?_
   refine vp ?_
   refine vc_y (y_cap Tryz.underlying136 (h := nilS) rfl) rfl ?_
   refine vc_y (y_slice sl_136 (h := nilS) rfl 0 0 0 rfl ⟨_, _, rfl, rfl⟩ rfl (by simp) (by omega) (by omega) (by exact Nat.le_refl _)) rfl ?_
   refine vp ?_
   refine vc_appendZ 0 rfl (E := eStr) (h := nilS.cut (Enc.sz eStr) 0 0 0) (xs := []) (Sl.vis.imp fun w r => by have := r.cut (lo := 0) (hi := 0) (mx := 0) (Nat.le_refl _) (Nat.le_refl _) (Nat.le_refl _) (Nat.zero_le _); simpa using this) (⟨#[]⟩ : ByteArray) el_136_eStr Tryz.underlying3 ze_9 rfl rfl m rfl (by omega) (by simp [SH.cut]; omega) (by simp; omega) (by simp; omega) rfl (fun h22 hh22 => ?_)
   refine vp ?_
   refine vc_y (y_len Tryz.underlying136 (h := nilS) rfl rfl) rfl ?_
   refine vc_y (y_slice sl_136 (h := h22) rfl 0 0 h22.cap rfl ⟨_, _, rfl, rfl⟩ rfl (by simp) (by omega) (by omega) (by omega)) rfl ?_
   refine vc_turn 0 rfl (Sl eStr (h22.cut (Enc.sz eStr) 0 0 h22.cap) []) (VS.of_ent (by have := Sl.cut (E := eStr) (h := h22) (xs := [] ++ List.replicate m (⟨#[]⟩ : ByteArray)) (lo := 0) (hi := 0) (mx := h22.cap) (Nat.le_refl _) (Nat.zero_le _) (Nat.zero_le _) (Nat.le_refl _); simpa using this)) ?_
   refine vp ?_
   refine vc_nil ?_
   refine vc_then ?_
   refine vc_seq ?_
   refine vc_region ?_
   refine vp ?_
   refine vp ?_
   refine vc_nil ?_
   refine vc_then ?_
   refine vc_ret ?_
   exact vc_end1 Tryz.results236 rfl _ (ent_pick [0] rfl) ⟨_, rfl, rfl⟩
  ·skip
   refine vc_skip ?_
   refine vc_then ?_
   refine vc_seq ?_
   refine vc_region ?_
   refine vp ?_
   refine vp ?_
   refine vc_nil ?_
   refine vc_then ?_
   refine vc_ret ?_
   exact vc_end1 Tryz.results236 rfl _ (sl_new) ⟨nilS, rfl, rfl⟩
theorem growI_spec {m : Nat} (hb : m ≤ 4000000) :
  Does Tryz.prog 237 [nilS.v, .int .i64 (m : Int)] [] (fun v l => ∃ h', v = h'.v ∧ l = [Sl eInt h' []]) := by
 refine spec_of Tryz.func237 rfl Tryz.ntmps237 Tryz.results237 _ (by simp) fun ι F => ?_
 refine vc_seq ?_
 refine vc_region ?_
 refine vp ?_
 refine vc_nil ?_
 refine vc_then ?_
 refine vc_seq ?_
 refine vc_seq ?_
 refine vc_region ?_
 refine vp ?_
 refine vp ?_
 refine vc_nil ?_
 refine vc_then ?_
 first | refine vc_condP rfl (fun c6 => ?_) (fun c6 => ?_) | refine vc_condN rfl (fun c6 => ?_) (fun c6 => ?_) | refine vc_cond rfl (fun c6 => ?_) (fun c6 => ?_)
 ·skip
  exact absurd c6 (by omega)
 ·skip
  refine vc_skip ?_
  refine vc_then ?_
  refine vc_seq ?_
  refine vc_seq ?_
  refine vc_region ?_
  refine vp ?_
  refine vp ?_
  refine vc_y (y_cap Tryz.underlying72 (h := nilS) rfl) rfl ?_
  refine vp ?_
  refine vc_y (y_len Tryz.underlying72 (h := nilS) rfl rfl) rfl ?_
  refine vc_y (y_arith (0 : Int) rfl (by decide)) rfl ?_
  refine vc_y (y_arith (m : Int) rfl (by rw [Int.sub_zero]; exact wrap64 (by omega) (by omega))) rfl ?_
  refine vp ?_
  refine vc_nil ?_
  refine vc_then ?_
  refine vc_seq ?_
  refine vc_region ?_
  refine vp ?_
  refine vp ?_
  refine vc_nil ?_
  refine vc_then ?_
  first | refine vc_condP rfl (fun c16 => ?_) (fun c16 => ?_) | refine vc_condN rfl (fun c16 => ?_) (fun c16 => ?_) | refine vc_cond rfl (fun c16 => ?_) (fun c16 => ?_)
  ·skip
   refine vc_region ?_
   refine vc_ent (l' := Sl eInt nilS [] :: _) sl_new ?_
   refine vp ?_
   refine vp ?_
   refine vc_y (y_cap Tryz.underlying72 (h := nilS) rfl) rfl ?_
   refine vc_y (y_slice sl_72 (h := nilS) rfl 0 0 0 rfl ⟨_, _, rfl, rfl⟩ rfl (by simp) (by omega) (by omega) (by exact Nat.le_refl _)) rfl ?_
   refine vp ?_
   refine vc_appendZ 0 rfl (E := eInt) (h := nilS.cut (Enc.sz eInt) 0 0 0) (xs := []) (Sl.vis.imp fun w r => by have := r.cut (lo := 0) (hi := 0) (mx := 0) (Nat.le_refl _) (Nat.le_refl _) (Nat.le_refl _) (Nat.zero_le _); simpa using this) (0 : Int) el_72_eInt Tryz.underlying3 ze_3 rfl rfl m rfl (by omega) (by simp [SH.cut]; omega) (by simp; omega) (by simp; omega) rfl (fun h22 hh22 => ?_)
   refine vp ?_
   refine vc_y (y_len Tryz.underlying72 (h := nilS) rfl rfl) rfl ?_
   refine vc_y (y_slice sl_72 (h := h22) rfl 0 0 h22.cap rfl ⟨_, _, rfl, rfl⟩ rfl (by simp) (by omega) (by omega) (by omega)) rfl ?_
   refine vc_turn 0 rfl (Sl eInt (h22.cut (Enc.sz eInt) 0 0 h22.cap) []) (VS.of_ent (by have := Sl.cut (E := eInt) (h := h22) (xs := [] ++ List.replicate m (0 : Int)) (lo := 0) (hi := 0) (mx := h22.cap) (Nat.le_refl _) (Nat.zero_le _) (Nat.zero_le _) (Nat.le_refl _); simpa using this)) ?_
   refine vp ?_
   refine vc_nil ?_
   refine vc_then ?_
   refine vc_seq ?_
   refine vc_region ?_
   refine vp ?_
   refine vp ?_
   refine vc_nil ?_
   refine vc_then ?_
   refine vc_ret ?_
   exact vc_end1 Tryz.results237 rfl _ (ent_pick [0] rfl) ⟨_, rfl, rfl⟩
  ·skip
   refine vc_skip ?_
   refine vc_then ?_
   refine vc_seq ?_
   refine vc_region ?_
   refine vp ?_
   refine vp ?_
   refine vc_nil ?_
   refine vc_then ?_
   refine vc_ret ?_
   exact vc_end1 Tryz.results237 rfl _ (sl_new) ⟨nilS, rfl, rfl⟩
theorem growN_spec {m : Nat} (hb : m ≤ 4000000) :
  Does Tryz.prog 237 [nilS.v, .int .i64 (m : Int)] [] (fun v l => ∃ h', v = h'.v ∧ l = [Sl eNat h' []]) := by
 refine spec_of Tryz.func237 rfl Tryz.ntmps237 Tryz.results237 _ (by simp) fun ι F => ?_
 refine vc_seq ?_
 refine vc_region ?_
 refine vp ?_
 refine vc_nil ?_
 refine vc_then ?_
 refine vc_seq ?_
 refine vc_seq ?_
 refine vc_region ?_
 refine vp ?_
 refine vp ?_
 refine vc_nil ?_
 refine vc_then ?_
 first | refine vc_condP rfl (fun c6 => ?_) (fun c6 => ?_) | refine vc_condN rfl (fun c6 => ?_) (fun c6 => ?_) | refine vc_cond rfl (fun c6 => ?_) (fun c6 => ?_)
 ·skip
  exact absurd c6 (by omega)
 ·skip
  refine vc_skip ?_
  refine vc_then ?_
  refine vc_seq ?_
  refine vc_seq ?_
  refine vc_region ?_
  refine vp ?_
  refine vp ?_
  refine vc_y (y_cap Tryz.underlying72 (h := nilS) rfl) rfl ?_
  refine vp ?_
  refine vc_y (y_len Tryz.underlying72 (h := nilS) rfl rfl) rfl ?_
  refine vc_y (y_arith (0 : Int) rfl (by decide)) rfl ?_
  refine vc_y (y_arith (m : Int) rfl (by rw [Int.sub_zero]; exact wrap64 (by omega) (by omega))) rfl ?_
  refine vp ?_
  refine vc_nil ?_
  refine vc_then ?_
  refine vc_seq ?_
  refine vc_region ?_
  refine vp ?_
  refine vp ?_
  refine vc_nil ?_
  refine vc_then ?_
  first | refine vc_condP rfl (fun c16 => ?_) (fun c16 => ?_) | refine vc_condN rfl (fun c16 => ?_) (fun c16 => ?_) | refine vc_cond rfl (fun c16 => ?_) (fun c16 => ?_)
  ·skip
   refine vc_region ?_
   refine vc_ent (l' := Sl eNat nilS [] :: _) sl_new ?_
   refine vp ?_
   refine vp ?_
   refine vc_y (y_cap Tryz.underlying72 (h := nilS) rfl) rfl ?_
   refine vc_y (y_slice sl_72 (h := nilS) rfl 0 0 0 rfl ⟨_, _, rfl, rfl⟩ rfl (by simp) (by omega) (by omega) (by exact Nat.le_refl _)) rfl ?_
   refine vp ?_
   refine vc_appendZ 0 rfl (E := eNat) (h := nilS.cut (Enc.sz eNat) 0 0 0) (xs := []) (Sl.vis.imp fun w r => by have := r.cut (lo := 0) (hi := 0) (mx := 0) (Nat.le_refl _) (Nat.le_refl _) (Nat.le_refl _) (Nat.zero_le _); simpa using this) (0 : Nat) el_72_eNat Tryz.underlying3 ze_3 rfl rfl m rfl (by omega) (by simp [SH.cut]; omega) (by simp; omega) (by simp; omega) rfl (fun h22 hh22 => ?_)
   refine vp ?_
   refine vc_y (y_len Tryz.underlying72 (h := nilS) rfl rfl) rfl ?_
   refine vc_y (y_slice sl_72 (h := h22) rfl 0 0 h22.cap rfl ⟨_, _, rfl, rfl⟩ rfl (by simp) (by omega) (by omega) (by omega)) rfl ?_
   refine vc_turn 0 rfl (Sl eNat (h22.cut (Enc.sz eNat) 0 0 h22.cap) []) (VS.of_ent (by have := Sl.cut (E := eNat) (h := h22) (xs := [] ++ List.replicate m (0 : Nat)) (lo := 0) (hi := 0) (mx := h22.cap) (Nat.le_refl _) (Nat.zero_le _) (Nat.zero_le _) (Nat.le_refl _); simpa using this)) ?_
   refine vp ?_
   refine vc_nil ?_
   refine vc_then ?_
   refine vc_seq ?_
   refine vc_region ?_
   refine vp ?_
   refine vp ?_
   refine vc_nil ?_
   refine vc_then ?_
   refine vc_ret ?_
   exact vc_end1 Tryz.results237 rfl _ (ent_pick [0] rfl) ⟨_, rfl, rfl⟩
  ·skip
   refine vc_skip ?_
   refine vc_then ?_
   refine vc_seq ?_
   refine vc_region ?_
   refine vp ?_
   refine vp ?_
   refine vc_nil ?_
   refine vc_then ?_
   refine vc_ret ?_
   exact vc_end1 Tryz.results237 rfl _ (sl_new) ⟨nilS, rfl, rfl⟩
theorem catS_spec {B : HP} {hh : SH} {L : List (SH × List ByteArray)} (hB : ∀ p ∈ L, Vis B (Rd eStr p.1 p.2)) (hb : (L.flatMap (·.2)).length ≤ 1000000) (hb2 : L.length ≤ 1000000) :
  Does Tryz.prog 221 [hh.v] [Sl (eSl 136) hh (L.map (·.1)), B] (fun v l => ∃ h', v = h'.v ∧ l = [Sl eStr h' (L.flatMap (·.2)), Sl (eSl 136) hh (L.map (·.1)), B]) := by
 refine spec_of Tryz.func221 rfl Tryz.ntmps221 Tryz.results221 _ (by simp) fun ι F => ?_
 refine vc_see 0 rfl (Sl.vis.imp fun w r => r.len) (fun hlen => ?_)
 rw [List.length_map] at hlen
 have hcl := fun i => cat_le (L := L) i
 refine vc_seq ?_
 refine vc_region ?_
 refine vp ?_
 refine vc_nil ?_
 refine vc_then ?_
 refine vc_seq ?_
 refine vc_region ?_
 refine vp ?_
 refine vc_nil ?_
 refine vc_then ?_
 refine vc_seq ?_
 refine vc_seq ?_
 refine vc_region ?_
 refine vp ?_
 refine vc_y (y_len Tryz.underlying295 rfl hlen) rfl ?_
 refine vp ?_
 refine vc_nil ?_
 refine vc_then ?_
 refine vc_block ?_
 refine vc_loop (α := Nat) (fun x => match x with | i => [(0, hh.v), (3, .int .i64 ((catN L i).length : Int)), (9, hh.v), (10, .int .i64 (L.length : Int)), (11, .int .i64 (i : Int))]) (fun x => match x with | i => [Sl (eSl 136) hh (L.map (·.1)), B]) (fun x => match x with | i => L.length - i) (fun x => match x with | i => i ≤ L.length) 0 (Nat.zero_le _) ⟨rfl, rfl, rfl, rfl, rfl, trivial⟩ (ent_pick [0, 0] rfl) ?_
 rintro i hi
 show VC _ _ _ _ [(0, hh.v), (3, .int .i64 ((catN L i).length : Int)), (9, hh.v), (10, .int .i64 (L.length : Int)), (11, .int .i64 (i : Int))] ([Sl (eSl 136) hh (L.map (·.1)), B])
 have hcli := hcl i
 refine vc_seq ?_
 refine vc_region ?_
 refine vp ?_
 refine vc_nil ?_
 refine vc_then ?_
 refine vc_seq ?_
 first | refine vc_condP rfl (fun c12 => ?_) (fun c12 => ?_) | refine vc_condN rfl (fun c12 => ?_) (fun c12 => ?_) | refine vc_cond rfl (fun c12 => ?_) (fun c12 => ?_)
 ·skip
  obtain ⟨p, hp⟩ : ∃ p, L[i]? = some p := ⟨_, List.getElem?_eq_getElem (by omega)⟩
  have hpv := hB p (List.mem_of_getElem? hp)
  refine vc_see 1 rfl (hpv.imp fun w r => r.len) (fun hpl => ?_)
  have hcs := cat_succ hp
  have hcl2 := hcl (i + 1)
  rw [hcs, List.length_append] at hcl2
  refine vc_skip ?_
  refine vc_then ?_
  refine vc_seq ?_
  refine vc_block ?_
  refine vc_seq ?_
  refine vc_region ?_
  refine vc_y (y_elem 0 rfl (Sl.vis) i rfl (by rw [List.length_map]; omega) sl_295 rfl rfl) rfl ?_
  refine vc_y (y_load1 0 rfl one_136 rfl (Rd.vis1 (Sl.vis) (by rw [List.getElem?_map, hp]; rfl) rfl)) rfl ?_
  refine vp ?_
  refine vc_nil ?_
  refine vc_then ?_
  refine vc_seq ?_
  refine vc_region ?_
  refine vp ?_
  refine vp ?_
  refine vc_y (y_len Tryz.underlying136 rfl hpl) rfl ?_
  refine vc_y (y_arith ((catN L (i + 1)).length : Int) rfl (by rw [hcs, List.length_append, Int.natCast_add]; exact wrap64 (by omega) (by omega))) rfl ?_
  refine vp ?_
  refine vc_nil ?_
  refine vc_then ?_
  refine vc_seq ?_
  refine vc_region ?_
  refine vp ?_
  refine vp ?_
  refine vc_nil ?_
  refine vc_then ?_
  first | refine vc_condP rfl (fun c20 => ?_) (fun c20 => ?_) | refine vc_condN rfl (fun c20 => ?_) (fun c20 => ?_) | refine vc_cond rfl (fun c20 => ?_) (fun c20 => ?_)
  ·skip
   exact absurd c20 (by omega)
  ·skip
   refine vc_skip ?_
   refine vc_inNormal ?_
   refine vc_then ?_
   refine vc_region ?_
   first | refine vc_y (y_arith _ rfl (wrapNadd (by omega))) rfl ?_ | refine vc_y (y_arith _ rfl (wrap64 (by omega) (by omega))) rfl ?_ | refine vp ?_
   refine vp ?_
   refine vc_nil ?_
   refine vc_then ?_
   exact vc_again (x := i) (i + 1) (by omega) (by show L.length - (i + 1) < L.length - i; omega) ⟨rfl, rfl, rfl, rfl, rfl, trivial⟩ (ent_pick [0, 0] rfl)
 ·skip
  obtain rfl : i = L.length := by omega
  refine vc_exit ?_
  refine vc_thenExit ?_
  refine vc_thenExit ?_
  refine vc_inExit ?_
  refine vc_then ?_
  refine vc_seq ?_
  refine vc_region ?_
  refine vp ?_
  refine vc_callv ca_236 (us := []) (vs := []) rfl [_, _] rfl [] rfl (growS_spec (by omega)) rfl ?_
  rintro _ _ ⟨g0, rfl, rfl⟩
  refine vp ?_
  refine vc_nil ?_
  refine vc_then ?_
  refine vc_seq ?_
  refine vc_seq ?_
  refine vc_region ?_
  refine vp ?_
  refine vc_y (y_len Tryz.underlying295 rfl hlen) rfl ?_
  refine vp ?_
  refine vc_nil ?_
  refine vc_then ?_
  refine vc_block ?_
  refine vc_loop (α := Nat × SH) (fun x => match x with | (i, g) => [(6, g.v), (25, hh.v), (26, .int .i64 (L.length : Int)), (27, .int .i64 (i : Int))]) (fun x => match x with | (i, g) => [Sl eStr g (catN L i), Sl (eSl 136) hh (L.map (·.1)), B]) (fun x => match x with | (i, g) => L.length - i) (fun x => match x with | (i, g) => i ≤ L.length) (0, g0) (Nat.zero_le _) ⟨rfl, rfl, rfl, rfl, trivial⟩ (ent_pick [0, 0, 0] rfl) ?_
  rintro ⟨i, g⟩ hi
  show VC _ _ _ _ [(6, g.v), (25, hh.v), (26, .int .i64 (L.length : Int)), (27, .int .i64 (i : Int))] ([Sl eStr g (catN L i), Sl (eSl 136) hh (L.map (·.1)), B])
  have hcli := hcl i
  refine vc_seq ?_
  refine vc_region ?_
  refine vp ?_
  refine vc_nil ?_
  refine vc_then ?_
  refine vc_seq ?_
  first | refine vc_condP rfl (fun c28 => ?_) (fun c28 => ?_) | refine vc_condN rfl (fun c28 => ?_) (fun c28 => ?_) | refine vc_cond rfl (fun c28 => ?_) (fun c28 => ?_)
  ·skip
   obtain ⟨p, hp⟩ : ∃ p, L[i]? = some p := ⟨_, List.getElem?_eq_getElem (by omega)⟩
   have hpv := hB p (List.mem_of_getElem? hp)
   have hcs := cat_succ hp
   have hcl2 := hcl (i + 1)
   rw [hcs, List.length_append] at hcl2
   refine vc_skip ?_
   refine vc_then ?_
   refine vc_seq ?_
   refine vc_block ?_
   refine vc_seq ?_
   refine vc_region ?_
   refine vc_y (y_elem 1 rfl (Sl.vis) i rfl (by rw [List.length_map]; omega) sl_295 rfl rfl) rfl ?_
   refine vc_y (y_load1 1 rfl one_136 rfl (Rd.vis1 (Sl.vis) (by rw [List.getElem?_map, hp]; rfl) rfl)) rfl ?_
   refine vp ?_
   refine vc_nil ?_
   refine vc_then ?_
   refine vc_region ?_
   refine vp ?_
   refine vp ?_
   refine vc_append 0 rfl 2 rfl hpv el_136_eStr Tryz.underlying136 rfl rfl (by omega) (by omega) rfl (fun h33 => ?_)
   refine vc_re 0 rfl (congrArg (Sl eStr h33) hcs.symm) ?_
   refine vp ?_
   refine vc_nil ?_
   refine vc_inNormal ?_
   refine vc_then ?_
   refine vc_region ?_
   first | refine vc_y (y_arith _ rfl (wrapNadd (by omega))) rfl ?_ | refine vc_y (y_arith _ rfl (wrap64 (by omega) (by omega))) rfl ?_ | refine vp ?_
   refine vp ?_
   refine vc_nil ?_
   refine vc_then ?_
   exact vc_again (x := (i, g)) (i + 1, h33) (by show i + 1 ≤ L.length; omega) (by show L.length - (i + 1) < L.length - i; omega) ⟨rfl, rfl, rfl, rfl, trivial⟩ (ent_pick [0, 0, 0] rfl)
  ·skip
   obtain rfl : i = L.length := by omega
   rw [cat_all]
   refine vc_exit ?_
   refine vc_thenExit ?_
   refine vc_thenExit ?_
   refine vc_inExit ?_
   refine vc_then ?_
   refine vc_seq ?_
   refine vc_region ?_
   refine vp ?_
   refine vp ?_
   refine vc_nil ?_
   refine vc_then ?_
   refine vc_ret ?_
   exact vc_end1 Tryz.results221 rfl _ (ent_pick [0, 0, 0] rfl) ⟨g, rfl, rfl⟩
theorem catI_spec {B : HP} {hh : SH} {L : List (SH × List Int)} (hB : ∀ p ∈ L, Vis B (Rd eInt p.1 p.2)) (hb : (L.flatMap (·.2)).length ≤ 1000000) (hb2 : L.length ≤ 1000000) :
  Does Tryz.prog 222 [hh.v] [Sl (eSl 72) hh (L.map (·.1)), B] (fun v l => ∃ h', v = h'.v ∧ l = [Sl eInt h' (L.flatMap (·.2)), Sl (eSl 72) hh (L.map (·.1)), B]) := by
 refine spec_of Tryz.func222 rfl Tryz.ntmps222 Tryz.results222 _ (by simp) fun ι F => ?_
 refine vc_see 0 rfl (Sl.vis.imp fun w r => r.len) (fun hlen => ?_)
 rw [List.length_map] at hlen
 have hcl := fun i => cat_le (L := L) i
 refine vc_seq ?_
 refine vc_region ?_
 refine vp ?_
 refine vc_nil ?_
 refine vc_then ?_
 refine vc_seq ?_
 refine vc_region ?_
 refine vp ?_
 refine vc_nil ?_
 refine vc_then ?_
 refine vc_seq ?_
 refine vc_seq ?_
 refine vc_region ?_
 refine vp ?_
 refine vc_y (y_len Tryz.underlying297 rfl hlen) rfl ?_
 refine vp ?_
 refine vc_nil ?_
 refine vc_then ?_
 refine vc_block ?_
 refine vc_loop (α := Nat) (fun x => match x with | i => [(0, hh.v), (3, .int .i64 ((catN L i).length : Int)), (9, hh.v), (10, .int .i64 (L.length : Int)), (11, .int .i64 (i : Int))]) (fun x => match x with | i => [Sl (eSl 72) hh (L.map (·.1)), B]) (fun x => match x with | i => L.length - i) (fun x => match x with | i => i ≤ L.length) 0 (Nat.zero_le _) ⟨rfl, rfl, rfl, rfl, rfl, trivial⟩ (ent_pick [0, 0] rfl) ?_
 rintro i hi
 show VC _ _ _ _ [(0, hh.v), (3, .int .i64 ((catN L i).length : Int)), (9, hh.v), (10, .int .i64 (L.length : Int)), (11, .int .i64 (i : Int))] ([Sl (eSl 72) hh (L.map (·.1)), B])
 have hcli := hcl i
 refine vc_seq ?_
 refine vc_region ?_
 refine vp ?_
 refine vc_nil ?_
 refine vc_then ?_
 refine vc_seq ?_
 first | refine vc_condP rfl (fun c12 => ?_) (fun c12 => ?_) | refine vc_condN rfl (fun c12 => ?_) (fun c12 => ?_) | refine vc_cond rfl (fun c12 => ?_) (fun c12 => ?_)
 ·skip
  obtain ⟨p, hp⟩ : ∃ p, L[i]? = some p := ⟨_, List.getElem?_eq_getElem (by omega)⟩
  have hpv := hB p (List.mem_of_getElem? hp)
  refine vc_see 1 rfl (hpv.imp fun w r => r.len) (fun hpl => ?_)
  have hcs := cat_succ hp
  have hcl2 := hcl (i + 1)
  rw [hcs, List.length_append] at hcl2
  refine vc_skip ?_
  refine vc_then ?_
  refine vc_seq ?_
  refine vc_block ?_
  refine vc_seq ?_
  refine vc_region ?_
  refine vc_y (y_elem 0 rfl (Sl.vis) i rfl (by rw [List.length_map]; omega) sl_297 rfl rfl) rfl ?_
  refine vc_y (y_load1 0 rfl one_72 rfl (Rd.vis1 (Sl.vis) (by rw [List.getElem?_map, hp]; rfl) rfl)) rfl ?_
  refine vp ?_
  refine vc_nil ?_
  refine vc_then ?_
  refine vc_seq ?_
  refine vc_region ?_
  refine vp ?_
  refine vp ?_
  refine vc_y (y_len Tryz.underlying72 rfl hpl) rfl ?_
  refine vc_y (y_arith ((catN L (i + 1)).length : Int) rfl (by rw [hcs, List.length_append, Int.natCast_add]; exact wrap64 (by omega) (by omega))) rfl ?_
  refine vp ?_
  refine vc_nil ?_
  refine vc_then ?_
  refine vc_seq ?_
  refine vc_region ?_
  refine vp ?_
  refine vp ?_
  refine vc_nil ?_
  refine vc_then ?_
  first | refine vc_condP rfl (fun c20 => ?_) (fun c20 => ?_) | refine vc_condN rfl (fun c20 => ?_) (fun c20 => ?_) | refine vc_cond rfl (fun c20 => ?_) (fun c20 => ?_)
  ·skip
   exact absurd c20 (by omega)
  ·skip
   refine vc_skip ?_
   refine vc_inNormal ?_
   refine vc_then ?_
   refine vc_region ?_
   first | refine vc_y (y_arith _ rfl (wrapNadd (by omega))) rfl ?_ | refine vc_y (y_arith _ rfl (wrap64 (by omega) (by omega))) rfl ?_ | refine vp ?_
   refine vp ?_
   refine vc_nil ?_
   refine vc_then ?_
   exact vc_again (x := i) (i + 1) (by omega) (by show L.length - (i + 1) < L.length - i; omega) ⟨rfl, rfl, rfl, rfl, rfl, trivial⟩ (ent_pick [0, 0] rfl)
 ·skip
  obtain rfl : i = L.length := by omega
  refine vc_exit ?_
  refine vc_thenExit ?_
  refine vc_thenExit ?_
  refine vc_inExit ?_
  refine vc_then ?_
  refine vc_seq ?_
  refine vc_region ?_
  refine vp ?_
  refine vc_callv ca_237 (us := []) (vs := []) rfl [_, _] rfl [] rfl (growI_spec (by omega)) rfl ?_
  rintro _ _ ⟨g0, rfl, rfl⟩
  refine vp ?_
  refine vc_nil ?_
  refine vc_then ?_
  refine vc_seq ?_
  refine vc_seq ?_
  refine vc_region ?_
  refine vp ?_
  refine vc_y (y_len Tryz.underlying297 rfl hlen) rfl ?_
  refine vp ?_
  refine vc_nil ?_
  refine vc_then ?_
  refine vc_block ?_
  refine vc_loop (α := Nat × SH) (fun x => match x with | (i, g) => [(6, g.v), (25, hh.v), (26, .int .i64 (L.length : Int)), (27, .int .i64 (i : Int))]) (fun x => match x with | (i, g) => [Sl eInt g (catN L i), Sl (eSl 72) hh (L.map (·.1)), B]) (fun x => match x with | (i, g) => L.length - i) (fun x => match x with | (i, g) => i ≤ L.length) (0, g0) (Nat.zero_le _) ⟨rfl, rfl, rfl, rfl, trivial⟩ (ent_pick [0, 0, 0] rfl) ?_
  rintro ⟨i, g⟩ hi
  show VC _ _ _ _ [(6, g.v), (25, hh.v), (26, .int .i64 (L.length : Int)), (27, .int .i64 (i : Int))] ([Sl eInt g (catN L i), Sl (eSl 72) hh (L.map (·.1)), B])
  have hcli := hcl i
  refine vc_seq ?_
  refine vc_region ?_
  refine vp ?_
  refine vc_nil ?_
  refine vc_then ?_
  refine vc_seq ?_
  first | refine vc_condP rfl (fun c28 => ?_) (fun c28 => ?_) | refine vc_condN rfl (fun c28 => ?_) (fun c28 => ?_) | refine vc_cond rfl (fun c28 => ?_) (fun c28 => ?_)
  ·skip
   obtain ⟨p, hp⟩ : ∃ p, L[i]? = some p := ⟨_, List.getElem?_eq_getElem (by omega)⟩
   have hpv := hB p (List.mem_of_getElem? hp)
   have hcs := cat_succ hp
   have hcl2 := hcl (i + 1)
   rw [hcs, List.length_append] at hcl2
   refine vc_skip ?_
   refine vc_then ?_
   refine vc_seq ?_
   refine vc_block ?_
   refine vc_seq ?_
   refine vc_region ?_
   refine vc_y (y_elem 1 rfl (Sl.vis) i rfl (by rw [List.length_map]; omega) sl_297 rfl rfl) rfl ?_
   refine vc_y (y_load1 1 rfl one_72 rfl (Rd.vis1 (Sl.vis) (by rw [List.getElem?_map, hp]; rfl) rfl)) rfl ?_
   refine vp ?_
   refine vc_nil ?_
   refine vc_then ?_
   refine vc_region ?_
   refine vp ?_
   refine vp ?_
   refine vc_append 0 rfl 2 rfl hpv el_72_eInt Tryz.underlying72 rfl rfl (by omega) (by omega) rfl (fun h33 => ?_)
   refine vc_re 0 rfl (congrArg (Sl eInt h33) hcs.symm) ?_
   refine vp ?_
   refine vc_nil ?_
   refine vc_inNormal ?_
   refine vc_then ?_
   refine vc_region ?_
   first | refine vc_y (y_arith _ rfl (wrapNadd (by omega))) rfl ?_ | refine vc_y (y_arith _ rfl (wrap64 (by omega) (by omega))) rfl ?_ | refine vp ?_
   refine vp ?_
   refine vc_nil ?_
   refine vc_then ?_
   exact vc_again (x := (i, g)) (i + 1, h33) (by show i + 1 ≤ L.length; omega) (by show L.length - (i + 1) < L.length - i; omega) ⟨rfl, rfl, rfl, rfl, trivial⟩ (ent_pick [0, 0, 0] rfl)
  ·skip
   obtain rfl : i = L.length := by omega
   rw [cat_all]
   refine vc_exit ?_
   refine vc_thenExit ?_
   refine vc_thenExit ?_
   refine vc_inExit ?_
   refine vc_then ?_
   refine vc_seq ?_
   refine vc_region ?_
   refine vp ?_
   refine vp ?_
   refine vc_nil ?_
   refine vc_then ?_
   refine vc_ret ?_
   exact vc_end1 Tryz.results222 rfl _ (ent_pick [0, 0, 0] rfl) ⟨g, rfl, rfl⟩
theorem catN_spec {B : HP} {hh : SH} {L : List (SH × List Nat)} (hB : ∀ p ∈ L, Vis B (Rd eNat p.1 p.2)) (hb : (L.flatMap (·.2)).length ≤ 1000000) (hb2 : L.length ≤ 1000000) :
  Does Tryz.prog 222 [hh.v] [Sl (eSl 72) hh (L.map (·.1)), B] (fun v l => ∃ h', v = h'.v ∧ l = [Sl eNat h' (L.flatMap (·.2)), Sl (eSl 72) hh (L.map (·.1)), B]) := by
 refine spec_of Tryz.func222 rfl Tryz.ntmps222 Tryz.results222 _ (by simp) fun ι F => ?_
 refine vc_see 0 rfl (Sl.vis.imp fun w r => r.len) (fun hlen => ?_)
 rw [List.length_map] at hlen
 have hcl := fun i => cat_le (L := L) i
 refine vc_seq ?_
 refine vc_region ?_
 refine vp ?_
 refine vc_nil ?_
 refine vc_then ?_
 refine vc_seq ?_
 refine vc_region ?_
 refine vp ?_
 refine vc_nil ?_
 refine vc_then ?_
 refine vc_seq ?_
 refine vc_seq ?_
 refine vc_region ?_
 refine vp ?_
 refine vc_y (y_len Tryz.underlying297 rfl hlen) rfl ?_
 refine vp ?_
 refine vc_nil ?_
 refine vc_then ?_
 refine vc_block ?_
 refine vc_loop (α := Nat) (fun x => match x with | i => [(0, hh.v), (3, .int .i64 ((catN L i).length : Int)), (9, hh.v), (10, .int .i64 (L.length : Int)), (11, .int .i64 (i : Int))]) (fun x => match x with | i => [Sl (eSl 72) hh (L.map (·.1)), B]) (fun x => match x with | i => L.length - i) (fun x => match x with | i => i ≤ L.length) 0 (Nat.zero_le _) ⟨rfl, rfl, rfl, rfl, rfl, trivial⟩ (ent_pick [0, 0] rfl) ?_
 rintro i hi
 show VC _ _ _ _ [(0, hh.v), (3, .int .i64 ((catN L i).length : Int)), (9, hh.v), (10, .int .i64 (L.length : Int)), (11, .int .i64 (i : Int))] ([Sl (eSl 72) hh (L.map (·.1)), B])
 have hcli := hcl i
 refine vc_seq ?_
 refine vc_region ?_
 refine vp ?_
 refine vc_nil ?_
 refine vc_then ?_
 refine vc_seq ?_
 first | refine vc_condP rfl (fun c12 => ?_) (fun c12 => ?_) | refine vc_condN rfl (fun c12 => ?_) (fun c12 => ?_) | refine vc_cond rfl (fun c12 => ?_) (fun c12 => ?_)
 ·skip
  obtain ⟨p, hp⟩ : ∃ p, L[i]? = some p := ⟨_, List.getElem?_eq_getElem (by omega)⟩
  have hpv := hB p (List.mem_of_getElem? hp)
  refine vc_see 1 rfl (hpv.imp fun w r => r.len) (fun hpl => ?_)
  have hcs := cat_succ hp
  have hcl2 := hcl (i + 1)
  rw [hcs, List.length_append] at hcl2
  refine vc_skip ?_
  refine vc_then ?_
  refine vc_seq ?_
  refine vc_block ?_
  refine vc_seq ?_
  refine vc_region ?_
  refine vc_y (y_elem 0 rfl (Sl.vis) i rfl (by rw [List.length_map]; omega) sl_297 rfl rfl) rfl ?_
  refine vc_y (y_load1 0 rfl one_72 rfl (Rd.vis1 (Sl.vis) (by rw [List.getElem?_map, hp]; rfl) rfl)) rfl ?_
  refine vp ?_
  refine vc_nil ?_
  refine vc_then ?_
  refine vc_seq ?_
  refine vc_region ?_
  refine vp ?_
  refine vp ?_
  refine vc_y (y_len Tryz.underlying72 rfl hpl) rfl ?_
  refine vc_y (y_arith ((catN L (i + 1)).length : Int) rfl (by rw [hcs, List.length_append, Int.natCast_add]; exact wrap64 (by omega) (by omega))) rfl ?_
  refine vp ?_
  refine vc_nil ?_
  refine vc_then ?_
  refine vc_seq ?_
  refine vc_region ?_
  refine vp ?_
  refine vp ?_
  refine vc_nil ?_
  refine vc_then ?_
  first | refine vc_condP rfl (fun c20 => ?_) (fun c20 => ?_) | refine vc_condN rfl (fun c20 => ?_) (fun c20 => ?_) | refine vc_cond rfl (fun c20 => ?_) (fun c20 => ?_)
  ·skip
   exact absurd c20 (by omega)
  ·skip
   refine vc_skip ?_
   refine vc_inNormal ?_
   refine vc_then ?_
   refine vc_region ?_
   first | refine vc_y (y_arith _ rfl (wrapNadd (by omega))) rfl ?_ | refine vc_y (y_arith _ rfl (wrap64 (by omega) (by omega))) rfl ?_ | refine vp ?_
   refine vp ?_
   refine vc_nil ?_
   refine vc_then ?_
   exact vc_again (x := i) (i + 1) (by omega) (by show L.length - (i + 1) < L.length - i; omega) ⟨rfl, rfl, rfl, rfl, rfl, trivial⟩ (ent_pick [0, 0] rfl)
 ·skip
  obtain rfl : i = L.length := by omega
  refine vc_exit ?_
  refine vc_thenExit ?_
  refine vc_thenExit ?_
  refine vc_inExit ?_
  refine vc_then ?_
  refine vc_seq ?_
  refine vc_region ?_
  refine vp ?_
  refine vc_callv ca_237 (us := []) (vs := []) rfl [_, _] rfl [] rfl (growN_spec (by omega)) rfl ?_
  rintro _ _ ⟨g0, rfl, rfl⟩
  refine vp ?_
  refine vc_nil ?_
  refine vc_then ?_
  refine vc_seq ?_
  refine vc_seq ?_
  refine vc_region ?_
  refine vp ?_
  refine vc_y (y_len Tryz.underlying297 rfl hlen) rfl ?_
  refine vp ?_
  refine vc_nil ?_
  refine vc_then ?_
  refine vc_block ?_
  refine vc_loop (α := Nat × SH) (fun x => match x with | (i, g) => [(6, g.v), (25, hh.v), (26, .int .i64 (L.length : Int)), (27, .int .i64 (i : Int))]) (fun x => match x with | (i, g) => [Sl eNat g (catN L i), Sl (eSl 72) hh (L.map (·.1)), B]) (fun x => match x with | (i, g) => L.length - i) (fun x => match x with | (i, g) => i ≤ L.length) (0, g0) (Nat.zero_le _) ⟨rfl, rfl, rfl, rfl, trivial⟩ (ent_pick [0, 0, 0] rfl) ?_
  rintro ⟨i, g⟩ hi
  show VC _ _ _ _ [(6, g.v), (25, hh.v), (26, .int .i64 (L.length : Int)), (27, .int .i64 (i : Int))] ([Sl eNat g (catN L i), Sl (eSl 72) hh (L.map (·.1)), B])
  have hcli := hcl i
  refine vc_seq ?_
  refine vc_region ?_
  refine vp ?_
  refine vc_nil ?_
  refine vc_then ?_
  refine vc_seq ?_
  first | refine vc_condP rfl (fun c28 => ?_) (fun c28 => ?_) | refine vc_condN rfl (fun c28 => ?_) (fun c28 => ?_) | refine vc_cond rfl (fun c28 => ?_) (fun c28 => ?_)
  ·skip
   obtain ⟨p, hp⟩ : ∃ p, L[i]? = some p := ⟨_, List.getElem?_eq_getElem (by omega)⟩
   have hpv := hB p (List.mem_of_getElem? hp)
   have hcs := cat_succ hp
   have hcl2 := hcl (i + 1)
   rw [hcs, List.length_append] at hcl2
   refine vc_skip ?_
   refine vc_then ?_
   refine vc_seq ?_
   refine vc_block ?_
   refine vc_seq ?_
   refine vc_region ?_
   refine vc_y (y_elem 1 rfl (Sl.vis) i rfl (by rw [List.length_map]; omega) sl_297 rfl rfl) rfl ?_
   refine vc_y (y_load1 1 rfl one_72 rfl (Rd.vis1 (Sl.vis) (by rw [List.getElem?_map, hp]; rfl) rfl)) rfl ?_
   refine vp ?_
   refine vc_nil ?_
   refine vc_then ?_
   refine vc_region ?_
   refine vp ?_
   refine vp ?_
   refine vc_append 0 rfl 2 rfl hpv el_72_eNat Tryz.underlying72 rfl rfl (by omega) (by omega) rfl (fun h33 => ?_)
   refine vc_re 0 rfl (congrArg (Sl eNat h33) hcs.symm) ?_
   refine vp ?_
   refine vc_nil ?_
   refine vc_inNormal ?_
   refine vc_then ?_
   refine vc_region ?_
   first | refine vc_y (y_arith _ rfl (wrapNadd (by omega))) rfl ?_ | refine vc_y (y_arith _ rfl (wrap64 (by omega) (by omega))) rfl ?_ | refine vp ?_
   refine vp ?_
   refine vc_nil ?_
   refine vc_then ?_
   exact vc_again (x := (i, g)) (i + 1, h33) (by show i + 1 ≤ L.length; omega) (by show L.length - (i + 1) < L.length - i; omega) ⟨rfl, rfl, rfl, rfl, trivial⟩ (ent_pick [0, 0, 0] rfl)
  ·skip
   obtain rfl : i = L.length := by omega
   rw [cat_all]
   refine vc_exit ?_
   refine vc_thenExit ?_
   refine vc_thenExit ?_
   refine vc_inExit ?_
   refine vc_then ?_
   refine vc_seq ?_
   refine vc_region ?_
   refine vp ?_
   refine vp ?_
   refine vc_nil ?_
   refine vc_then ?_
   refine vc_ret ?_
   exact vc_end1 Tryz.results222 rfl _ (ent_pick [0, 0, 0] rfl) ⟨g, rfl, rfl⟩
end Go.Proofs.YtcpbibdbahfgaaaGreat
/-
 The walks of the tree's functions that only read.
-/
set_option linter.unusedVariables false
set_option linter.unusedSimpArgs false
set_option autoImplicit false
namespace Go.Proofs.YtcpbibdbahfgaaaGreat
open Go.Eng
namespace FTree1
theorem fl_231_2 : Fld Tryz.prog 231 2 2 := ⟨_, _, 0, Tryz.underlying231, rfl, rfl, by kernel_rfl⟩
theorem one_72 : TyOne Tryz.prog 72 := ⟨⟨_, Tryz.underlying72, rfl⟩, by kernel_rfl⟩
theorem ca_163 : Callable Tryz.prog 163 := ⟨_, _, Tryz.func163, rfl, rfl⟩
theorem fl_231_0 : Fld Tryz.prog 231 0 0 := ⟨_, _, 0, Tryz.underlying231, rfl, rfl, by kernel_rfl⟩
theorem one_136 : TyOne Tryz.prog 136 := ⟨⟨_, Tryz.underlying136, rfl⟩, by kernel_rfl⟩
theorem ca_168 : Callable Tryz.prog 168 := ⟨_, _, Tryz.func168, rfl, rfl⟩
theorem ep_129 : Tryz.prog.underlying 129 = some (.pointer (Tryz.prog.pointee 129)) := by kernel_rfl
theorem fl_204_2 : Fld Tryz.prog 204 2 2 := ⟨_, _, 0, Tryz.underlying204, rfl, rfl, by kernel_rfl⟩
theorem one_3 : TyOne Tryz.prog 3 := ⟨⟨_, Tryz.underlying3, rfl⟩, by kernel_rfl⟩
theorem fl_204_0 : Fld Tryz.prog 204 0 0 := ⟨_, _, 0, Tryz.underlying204, rfl, rfl, by kernel_rfl⟩
theorem one_202 : TyOne Tryz.prog 202 := ⟨⟨_, Tryz.underlying202, rfl⟩, by kernel_rfl⟩
theorem sl_202 : TySl Tryz.prog 202 231 3 := ⟨Tryz.underlying202, by kernel_rfl⟩
theorem ca_169 : Callable Tryz.prog 169 := ⟨_, _, Tryz.func169, rfl, rfl⟩
theorem sl_72 : TySl Tryz.prog 72 3 1 := ⟨Tryz.underlying72, by kernel_rfl⟩
end FTree1
open FTree1
theorem leaf_spec {A : HP} {ad : Addr} {k : SH} (hk : Vis A (fun w => w.cell? (ad.add 2) = some k.v)) :
  Does Tryz.prog 163 [.pointer (some ad)] [A] (fun v l => v = .bool (decide ((k.len : Int) = 0)) ∧ l = [A]) := by
 refine spec_of Tryz.func163 rfl Tryz.ntmps163 Tryz.results163 _ (by simp) fun ι F => ?_
 refine vc_seq ?_
 refine vc_region ?_
 refine vp ?_
 refine vc_nil ?_
 refine vc_then ?_
 refine vc_seq ?_
 refine vc_region ?_
 refine vp ?_
 refine vp ?_
 refine vc_y (y_fieldG fl_231_2 rfl) rfl ?_
 refine vc_y (y_load1 0 rfl one_72 rfl (hk)) rfl ?_
 refine vc_y (y_len Tryz.underlying72 rfl (by first | assumption | rfl)) rfl ?_
 refine vp ?_
 refine vp ?_
 refine vc_nil ?_
 refine vc_then ?_
 refine vc_ret ?_
 exact vc_end1 Tryz.results163 rfl _ (ent_pick [0] rfl) ⟨rfl, rfl⟩
theorem size_spec {A : HP} {ad : Addr} {k c : SH} (hk : Vis A (fun w => w.cell? (ad.add 0) = some k.v)) (hc : Vis A (fun w => w.cell? (ad.add 2) = some c.v)) :
  Does Tryz.prog 166 [.pointer (some ad)] [A] (fun v l => v = .int .i64 ((if c.len = 0 then k.len else c.len : Nat) : Int) ∧ l = [A]) := by
 refine spec_of Tryz.func166 rfl Tryz.ntmps166 Tryz.results166 _ (by simp) fun ι F => ?_
 refine vc_seq ?_
 refine vc_region ?_
 refine vp ?_
 refine vc_nil ?_
 refine vc_then ?_
 refine vc_seq ?_
 refine vc_seq ?_
 refine vc_region ?_
 refine vp ?_
 refine vc_callv ca_163 (us := []) (vs := []) rfl [_] rfl [0] rfl (leaf_spec hc) rfl ?_
 rintro _ _ ⟨rfl, rfl⟩
 refine vc_nil ?_
 refine vc_then ?_
 first | refine vc_condP rfl (fun c4 => ?_) (fun c4 => ?_) | refine vc_condN rfl (fun c4 => ?_) (fun c4 => ?_) | refine vc_cond rfl (fun c4 => ?_) (fun c4 => ?_)
 ·skip
  refine vc_seq ?_
  refine vc_region ?_
  refine vp ?_
  refine vp ?_
  refine vc_y (y_fieldG fl_231_0 rfl) rfl ?_
  refine vc_y (y_load1 0 rfl one_136 rfl (hk)) rfl ?_
  refine vc_y (y_len Tryz.underlying136 rfl (by first | assumption | rfl)) rfl ?_
  refine vp ?_
  refine vc_nil ?_
  refine vc_then ?_
  refine vc_ret ?_
  refine vc_thenRet ?_
  exact vc_end1 Tryz.results166 rfl _ (ent_pick [0] rfl) ⟨by simp at c4; simp [c4], rfl⟩
 ·skip
  refine vc_skip ?_
  refine vc_then ?_
  refine vc_seq ?_
  refine vc_region ?_
  refine vp ?_
  refine vp ?_
  refine vc_y (y_fieldG fl_231_2 rfl) rfl ?_
  refine vc_y (y_load1 0 rfl one_72 rfl (hc)) rfl ?_
  refine vc_y (y_len Tryz.underlying72 rfl (by first | assumption | rfl)) rfl ?_
  refine vp ?_
  refine vc_nil ?_
  refine vc_then ?_
  refine vc_ret ?_
  exact vc_end1 Tryz.results166 rfl _ (ent_pick [0] rfl) ⟨by simp at c4; simp [c4], rfl⟩
theorem way_spec {A : HP} {ad : Addr} {k : SH} {d : Nd} (hk : Vis A (fun w => w.cell? (ad.add 0) = some k.v)) (hv : Vis A (Rd eStr k d.keys)) (hr : Rise d.keys) (hb : d.keys.length ≤ 1000000) (key : ByteArray) :
  Does Tryz.prog 169 [.pointer (some ad), .string key] [A] (fun v l => v = .int .i64 (wayN d key : Int) ∧ l = [A]) := by
 refine spec_of Tryz.func169 rfl Tryz.ntmps169 Tryz.results169 _ (by simp) fun ι F => ?_
 have hlb := lb_le d.keys key
 refine vc_seq ?_
 refine vc_region ?_
 refine vp ?_
 refine vc_nil ?_
 refine vc_then ?_
 refine vc_seq ?_
 refine vc_region ?_
 refine vp ?_
 refine vp ?_
 refine vc_y (y_fieldG fl_231_0 rfl) rfl ?_
 refine vc_y (y_load1 0 rfl one_136 rfl (hk)) rfl ?_
 refine vp ?_
 refine vc_callv ca_168 (us := []) (vs := []) rfl [_, _] rfl [0] rfl (bsS_spec hv hr key (by omega)) rfl ?_
 rintro _ _ ⟨rfl, rfl⟩
 iterate 5 refine vp ?_
 refine vc_nil ?_
 refine vc_then ?_
 refine vc_seq ?_
 refine vc_seq ?_
 refine vc_region ?_
 refine vp ?_
 refine vc_nil ?_
 refine vc_then ?_
 first | refine vc_condP rfl (fun c16 => ?_) (fun c16 => ?_) | refine vc_condN rfl (fun c16 => ?_) (fun c16 => ?_) | refine vc_cond rfl (fun c16 => ?_) (fun c16 => ?_)
 ·skip
  refine vc_region ?_
  refine vp ?_
  first | refine vc_y (y_arith _ rfl (wrapNadd (by omega))) rfl ?_ | refine vc_y (y_arith _ rfl (wrap64 (by omega) (by omega))) rfl ?_ | refine vp ?_
  refine vp ?_
  refine vc_nil ?_
  refine vc_then ?_
  refine vc_seq ?_
  refine vc_region ?_
  refine vp ?_
  refine vp ?_
  refine vc_nil ?_
  refine vc_then ?_
  refine vc_ret ?_
  exact vc_end1 Tryz.results169 rfl _ (ent_pick [0] rfl) ⟨by simp [wayN, c16], rfl⟩
 ·skip
  refine vc_skip ?_
  refine vc_then ?_
  refine vc_seq ?_
  refine vc_region ?_
  refine vp ?_
  refine vp ?_
  refine vc_nil ?_
  refine vc_then ?_
  refine vc_ret ?_
  exact vc_end1 Tryz.results169 rfl _ (ent_pick [0] rfl) ⟨by simp [wayN, c16], rfl⟩
theorem find_some {b : Nat} {l : List Nd} {fr : List Nat} {r : Nat} {m : Int} {hl hf : SH} {hs : List Nd3} (hlen : hs.length = l.length) (hR : RiseAll l) (key : ByteArray) {f jl : Nat} (hdsc : dsc f l r key = some jl) {d : Nd} (hjd : l[jl]? = some d) :
  Does Tryz.prog 157 [.pointer (some ⟨b, 0, none⟩), .string key] (TO b ⟨l, fr, some r, m⟩ hl hf hs) (fun v l' => v = .tuple #[.pointer (some (eAd hl 3 jl 0)), .int .i64 (lb d.keys key : Int), .bool (fnd d.keys key)] ∧ l' = TO b ⟨l, fr, some r, m⟩ hl hf hs) := by
 refine spec_of Tryz.func157 rfl Tryz.ntmps157 Tryz.results157 _ (by simp) fun ι F => ?_
 refine vc_seq ?_
 refine vc_region ?_
 iterate 3 refine vp ?_
 refine vc_nil ?_
 refine vc_then ?_
 refine vc_seq ?_
 refine vc_seq ?_
 refine vc_region ?_
 refine vp ?_
 refine vc_y (y_eqNil ep_129 rfl rfl) rfl ?_
 refine vp ?_
 refine vc_guardT 12 rfl rfl ?_
 refine vp ?_
 refine vc_guardT 12 rfl rfl ?_
 refine vp ?_
 refine vc_guardT 12 rfl rfl ?_
 refine vc_y (y_fieldP fl_204_2 2 rfl rfl) rfl ?_
 refine vc_guardT 12 rfl rfl ?_
 refine vc_y (y_load1 0 rfl one_3 rfl (Pts.vis rfl)) rfl ?_
 refine vc_guardT 12 rfl rfl ?_
 refine vp ?_
 refine vp ?_
 refine vc_nil ?_
 refine vc_then ?_
 first | refine vc_condP rfl (fun c18 => ?_) (fun c18 => ?_) | refine vc_condN rfl (fun c18 => ?_) (fun c18 => ?_) | refine vc_cond rfl (fun c18 => ?_) (fun c18 => ?_)
 ·skip
  exact absurd c18 (by show ¬ ((r : Int) < 0); omega)
 ·skip
  refine vc_skip ?_
  refine vc_then ?_
  refine vc_seq ?_
  refine vc_draw (by kernel_rfl) _ none [0, 0, 0, 0] rfl ?_
  refine tpp 0 ?_
  refine tpp 1 ?_
  refine tp 2 rfl (by exact y_fieldP fl_204_0 0 rfl rfl) ?_
  refine tk 3 rfl (by exact y_load1 0 rfl one_202 rfl (Pts.vis rfl)) ?_
  refine tpp 4 ?_
  refine tpp 5 ?_
  refine tp 6 rfl (by exact y_fieldP fl_204_2 2 rfl rfl) ?_
  refine tk 7 rfl (by exact y_load1 0 rfl one_3 rfl (Pts.vis rfl)) ?_
  refine tk 8 rfl (by exact y_elem 1 rfl (Sl.vis) r rfl (by have := dsc_lt hdsc; omega) sl_202 rfl rfl) ?_
  refine tpp 9 ?_
  refine va_done (by kernel_rfl) ?_
  refine vc_then ?_
  refine vc_seq ?_
  refine vc_block ?_
  refine vc_loop (α := Nat × Nat) (fun x => match x with | (j, f) => [(0, .pointer (some ⟨b, 0, none⟩)), (1, .string key), (7, .pointer (some (eAd hl 3 j 0)))]) (fun x => match x with | (j, f) => TO b ⟨l, fr, some r, m⟩ hl hf hs) (fun x => match x with | (j, f) => f) (fun x => match x with | (j, f) => dsc f l j key = some jl) (r, f) hdsc ⟨rfl, rfl, rfl, trivial⟩ (ent_pick [0, 0, 0, 0] rfl) ?_
  rintro ⟨j, f⟩ hok
  show VC _ _ _ _ [(0, .pointer (some ⟨b, 0, none⟩)), (1, .string key), (7, .pointer (some (eAd hl 3 j 0)))] (TO b ⟨l, fr, some r, m⟩ hl hf hs)
  obtain ⟨f, d1, rfl, hd, hcase⟩ := dsc_some hok
  obtain ⟨h, hh⟩ := getSome hlen hd
  refine vc_see 3 rfl ((Nodes.visC hh hd).imp fun w r => r.len) (fun hcl => ?_)
  refine vc_seq ?_
  refine vc_seq ?_
  refine vc_region ?_
  refine vp ?_
  refine vc_callv ca_163 (us := []) (vs := []) rfl [_] rfl [1] rfl (leaf_spec (k := h.c) (Rd.vis1 Sl.vis hh rfl)) rfl ?_
  rintro _ _ ⟨rfl, rfl⟩
  refine vp ?_
  refine vc_nil ?_
  refine vc_then ?_
  first | refine vc_condP rfl (fun c30 => ?_) (fun c30 => ?_) | refine vc_condN rfl (fun c30 => ?_) (fun c30 => ?_) | refine vc_cond rfl (fun c30 => ?_) (fun c30 => ?_)
  ·skip
   rcases hcase with ⟨hk0, _⟩ | ⟨hk0, c, hc, hdc⟩
   ·exact absurd (by rw [hcl, hk0]; rfl) c30
   refine vc_skip ?_
   refine vc_then ?_
   refine vc_block ?_
   refine vc_draw (by kernel_rfl) _ none [0, 0, 0, 0] rfl ?_
   refine tpp 0 ?_
   refine tpp 1 ?_
   refine tp 2 rfl (by exact y_fieldP fl_204_0 0 rfl rfl) ?_
   refine tk 3 rfl (by exact y_load1 1 rfl one_202 rfl (Pts.vis rfl)) ?_
   refine tpp 4 ?_
   refine tpp 5 ?_
   refine tp 6 rfl (by exact y_fieldE fl_231_2 2 rfl rfl) ?_
   refine tk 7 rfl (by exact y_load1 0 rfl one_72 rfl (Rd.vis1 (Sl.vis) hh rfl)) ?_
   refine tpp 8 ?_
   refine tpp 9 ?_
   refine va_ready [10] (by kernel_rfl) rfl ?_
   refine vo_cons rfl (fun hC0 => ?_) ?_
   ·skip
    refine vc_callv ca_169 (us := []) (vs := []) rfl [_, _] rfl [0, 2] rfl ((way_spec (d := d1) (k := h.k) (A := seps [Sl eNode hl hs, Nodes hs l]) (Vis.at 0 rfl (Rd.vis1 Sl.vis hh rfl)) (Vis.at 1 rfl (Nodes.visK hh hd)) (hR _ _ hd).1 (hR _ _ hd).2.1 key).many) rfl ?_
    rintro _ _ ⟨rfl, rfl⟩
    refine vc_nil ?_
    refine vc_then ?_
    refine va_kept hC0 [0, 1, 1, 0] rfl ?_
    refine tk 11 rfl (by exact y_elem 3 rfl (Nodes.visC hh hd) (wayN d1 key) rfl (getLt hc) sl_72 rfl rfl) ?_
    refine tk 12 rfl (by exact y_load1 3 rfl one_3 rfl (Rd.vis1 (Nodes.visC hh hd) hc rfl)) ?_
    refine tk 13 rfl (by exact y_elem 0 rfl (Sl.vis) c rfl (by have := dsc_lt hdc; omega) sl_202 rfl rfl) ?_
    refine tpp 14 ?_
    refine va_done (by kernel_rfl) ?_
    refine vc_inNormal ?_
    refine vc_then ?_
    exact vc_again (x := (j, f + 1)) (c, f) hdc (by show f < f + 1; omega) ⟨rfl, rfl, rfl, trivial⟩ (ent_pick [2, 0, 1, 0] rfl)
   exact vo_nil
  ·skip
   obtain ⟨hk0, rfl⟩ : d1.kids = [] ∧ j = jl := by
    rcases hcase with h0 | ⟨h0, _⟩
    ·exact h0
    ·exact absurd (List.eq_nil_of_length_eq_zero (by omega)) h0
   obtain rfl : d = d1 := by rw [hjd] at hd; exact Option.some.inj hd
   refine vc_exit ?_
   refine vc_thenExit ?_
   refine vc_thenExit ?_
   refine vc_inExit ?_
   refine vc_then ?_
   refine vc_seq ?_
   refine vc_region ?_
   refine vp ?_
   refine vp ?_
   refine vc_y (y_fieldE fl_231_0 0 rfl rfl) rfl ?_
   refine vc_y (y_load1 0 rfl one_136 rfl (Rd.vis1 (Sl.vis) hh rfl)) rfl ?_
   refine vp ?_
   refine vc_callv ca_168 (us := []) (vs := []) rfl [_, _] rfl [3] rfl (bsS_spec (Nodes.visK hh hd) (hR _ _ hd).1 key (by have := (hR _ _ hd).2.1; omega)) rfl ?_
   rintro _ _ ⟨rfl, rfl⟩
   iterate 5 refine vp ?_
   refine vc_nil ?_
   refine vc_then ?_
   refine vc_seq ?_
   refine vc_region ?_
   iterate 6 refine vp ?_
   refine vc_nil ?_
   refine vc_then ?_
   refine vc_ret ?_
   exact vc_end3 Tryz.results157 rfl rfl rfl _ (ent_pick [2, 1, 1, 0] rfl) ⟨rfl, rfl⟩
theorem find_none {b : Nat} {l : List Nd} {fr : List Nat} {m : Int} {hl hf : SH} {hs : List Nd3} (key : ByteArray) :
  Does Tryz.prog 157 [.pointer (some ⟨b, 0, none⟩), .string key] (TO b ⟨l, fr, none, m⟩ hl hf hs) (fun v l' => v = .tuple #[.pointer none, .int .i64 0, .bool false] ∧ l' = TO b ⟨l, fr, none, m⟩ hl hf hs) := by
 refine spec_of Tryz.func157 rfl Tryz.ntmps157 Tryz.results157 _ (by simp) fun ι F => ?_
 refine vc_seq ?_
 refine vc_region ?_
 iterate 3 refine vp ?_
 refine vc_nil ?_
 refine vc_then ?_
 refine vc_seq ?_
 refine vc_seq ?_
 refine vc_region ?_
 refine vp ?_
 refine vc_y (y_eqNil ep_129 rfl rfl) rfl ?_
 refine vp ?_
 refine vc_guardT 12 rfl rfl ?_
 refine vp ?_
 refine vc_guardT 12 rfl rfl ?_
 refine vp ?_
 refine vc_guardT 12 rfl rfl ?_
 refine vc_y (y_fieldP fl_204_2 2 rfl rfl) rfl ?_
 refine vc_guardT 12 rfl rfl ?_
 refine vc_y (y_load1 0 rfl one_3 rfl (Pts.vis rfl)) rfl ?_
 refine vc_guardT 12 rfl rfl ?_
 refine vp ?_
 refine vp ?_
 refine vc_nil ?_
 refine vc_then ?_
 first | refine vc_condP rfl (fun c18 => ?_) (fun c18 => ?_) | refine vc_condN rfl (fun c18 => ?_) (fun c18 => ?_) | refine vc_cond rfl (fun c18 => ?_) (fun c18 => ?_)
 ·skip
  refine vc_seq ?_
  refine vc_region ?_
  iterate 3 refine vp ?_
  refine vc_nil ?_
  refine vc_then ?_
  refine vc_ret ?_
  refine vc_thenRet ?_
  exact vc_end3 Tryz.results157 rfl rfl rfl _ (ent_pick [0, 0, 0, 0] rfl) ⟨rfl, rfl⟩
 ·skip
  exact absurd (by show (-1 : Int) < 0; omega) c18
end Go.Proofs.YtcpbibdbahfgaaaGreat
