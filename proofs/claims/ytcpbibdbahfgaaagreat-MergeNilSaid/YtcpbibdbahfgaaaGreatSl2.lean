/-
 Deletes.
-/
import Derived.Test.YtcpbibdbahfgaaaGreatSl1
import Derived.Test.YtcpbibdbahfgaaaGreatEng8
set_option linter.unusedVariables false
set_option linter.unusedSimpArgs false
set_option autoImplicit false
namespace Go.Proofs.YtcpbibdbahfgaaaGreat
open Go.Eng
namespace FSl2
theorem el_136_eStr : TyEl Tryz.prog 136 eStr 16 := ⟨Tryz.underlying136, .string ⟨#[]⟩, by kernel_rfl, rfl⟩
theorem ze_9 : (Tryz.prog.info? 9).map (·.zero) = some (some (.string ⟨#[]⟩)) := by kernel_rfl
theorem sl_136 : TySl Tryz.prog 136 9 1 := ⟨Tryz.underlying136, by kernel_rfl⟩
theorem el_72_eInt : TyEl Tryz.prog 72 eInt 8 := ⟨Tryz.underlying72, .int .i64 0, by kernel_rfl, rfl⟩
theorem ze_3 : (Tryz.prog.info? 3).map (·.zero) = some (some (.int .i64 0)) := by kernel_rfl
theorem sl_72 : TySl Tryz.prog 72 3 1 := ⟨Tryz.underlying72, by kernel_rfl⟩
theorem el_72_eNat : TyEl Tryz.prog 72 eNat 8 := ⟨Tryz.underlying72, .int .i64 0, by kernel_rfl, rfl⟩
theorem el_22_eU64 : TyEl Tryz.prog 22 eU64 8 := ⟨Tryz.underlying22, .int .u64 0, by kernel_rfl, rfl⟩
theorem ze_34 : (Tryz.prog.info? 34).map (·.zero) = some (some (.int .u64 0)) := by kernel_rfl
theorem sl_22 : TySl Tryz.prog 22 34 1 := ⟨Tryz.underlying22, by kernel_rfl⟩
end FSl2
open FSl2
theorem delS_spec {h : SH} {xs : List ByteArray} {i j : Nat} (hi : i ≤ j) (hj : j ≤ xs.length) (hb : xs.length ≤ 1000000) :
  Does Tryz.prog 190 [h.v, .int .i64 (i : Int), .int .i64 (j : Int)] [Sl eStr h xs] (fun v l => ∃ h', v = h'.v ∧ l = [Sl eStr h' (xs.take i ++ xs.drop j)]) := by
 refine spec_of Tryz.func190 rfl Tryz.ntmps190 Tryz.results190 _ (by simp) fun ι F => ?_
 refine vc_see 0 rfl (Sl.vis.imp fun w r => (⟨r.len, r.cap⟩ : h.len = xs.length ∧ xs.length ≤ h.cap)) (fun hlc => ?_)
 obtain ⟨hlen, hcap⟩ := hlc
 refine vc_seq ?_
 refine vc_region ?_
 refine vp ?_
 refine vc_nil ?_
 refine vc_then ?_
 refine vc_seq ?_
 refine vc_region ?_
 iterate 4 refine vp ?_
 refine vc_y (y_len Tryz.underlying136 rfl hlen) rfl ?_
 refine vc_y (y_slice sl_136 rfl i j xs.length ⟨_, _, rfl, rfl⟩ ⟨_, _, rfl, rfl⟩ ⟨_, _, rfl, rfl⟩ (by simp) (by omega) (by omega) (by omega)) rfl ?_
 refine vc_nil ?_
 refine vc_then ?_
 refine vc_seq ?_
 refine vc_seq ?_
 refine vc_region ?_
 iterate 3 refine vp ?_
 refine vc_nil ?_
 refine vc_then ?_
 first | refine vc_condP rfl (fun c16 => ?_) (fun c16 => ?_) | refine vc_condN rfl (fun c16 => ?_) (fun c16 => ?_) | refine vc_cond rfl (fun c16 => ?_) (fun c16 => ?_)
 ·skip
  obtain rfl : i = j := by omega
  refine vc_seq ?_
  refine vc_region ?_
  refine vp ?_
  refine vp ?_
  refine vc_nil ?_
  refine vc_then ?_
  refine vc_ret ?_
  refine vc_thenRet ?_
  exact vc_end1 Tryz.results190 rfl _ (ent_pick [0] rfl) ⟨h, rfl, by simp⟩
 ·skip
  have hij : i < j := by omega
  refine vc_open 0 rfl (by omega) (fun b pre post hh hc2 hpost => ?_)
  obtain ⟨hha, hhl, hhc⟩ := h
  simp only [SH.mk.injEq] at hh
  obtain ⟨rfl, rfl, _⟩ := hh
  simp only [] at hlen hcap hc2 hpost
  have hbd := Nat.mul_le_mul_right (Enc.sz eStr) (show i + (xs.length - j) ≤ xs.length by omega)
  have hbd2 := Nat.mul_le_mul_right (Enc.sz eStr) (show (i + (xs.length - j)) + (j - i) ≤ xs.length by omega)
  rw [Nat.add_mul] at hbd hbd2
  refine vc_skip ?_
  refine vc_then ?_
  refine vc_seq ?_
  refine vc_region ?_
  refine vp ?_
  refine vc_y (y_len Tryz.underlying136 rfl rfl) rfl ?_
  refine vp ?_
  refine vc_nil ?_
  refine vc_then ?_
  refine vc_seq ?_
  refine vc_draw (by kernel_rfl) _ none [] rfl ?_
  refine tpp 0 ?_
  refine tpp 1 ?_
  refine va_take 2 rfl (by kernel_rfl) (by kernel_rfl) (by kernel_rfl) (by kernel_rfl) (fun _ _ _ h => h) (fun _ _ => rfl) (by exact y_sliceR sl_136 rfl 0 i hhc pre.length i hhc rfl ⟨_, _, rfl, rfl⟩ rfl (by simp) (by omega) (by omega) (by omega) (by omega) (by simp) (by omega) rfl) rfl ?_
  refine tpp 3 ?_
  refine tpp 4 ?_
  refine va_take 5 rfl (by kernel_rfl) (by kernel_rfl) (by kernel_rfl) (by kernel_rfl) (fun _ _ _ h => h) (fun _ _ => rfl) (by exact y_slice sl_136 (h := ⟨some ⟨b, pre.length, none⟩, xs.length, hhc⟩) rfl j xs.length hhc ⟨_, _, rfl, rfl⟩ rfl rfl (by simp) (by omega) (by omega) (by simp)) rfl ?_
  refine va_ready [6] (by kernel_rfl) rfl ?_
  refine vo_cons rfl (fun hC0 => ?_) ?_
  ·skip
   refine vc_appendRaw 0 rfl (E := eStr) (xs.drop j) 0 rfl ((Pts.rd hc2).imp fun w r => by have := r.cut hj (Nat.le_refl _) hc2 (Nat.le_refl _); rw [List.take_length] at this; exact this) el_136_eStr Tryz.underlying136 rfl rfl (by simp; omega) (by simp only [List.length_append, flat_length, List.length_drop]; omega) rfl ?_
   refine vc_cells 0 (pre ++ flat eStr (over xs i (xs.drop j)) ++ post) rfl (by rw [splice_flat eStr (by omega), List.length_drop, show i + (xs.length - j) - xs.length = 0 by omega]; simp) ?_
   refine vc_nil ?_
   refine vc_then ?_
   refine va_kept hC0 [] rfl ?_
   refine tpp 7 ?_
   refine va_done (by kernel_rfl) ?_
   refine vc_then ?_
   refine vc_seq ?_
   refine vc_region ?_
   refine vp ?_
   refine vp ?_
   refine vc_y (y_len Tryz.underlying136 (h := ⟨some ⟨b, pre.length, none⟩, i + (xs.drop j).length, hhc⟩) rfl (m := i + (xs.length - j)) (by simp)) rfl ?_
   refine vp ?_
   refine vc_y (y_sliceR sl_136 rfl (i + (xs.length - j)) xs.length hhc (pre.length + (i + (xs.length - j)) * Enc.sz eStr) (j - i) _ ⟨_, _, rfl, rfl⟩ ⟨_, _, rfl, rfl⟩ rfl (by simp) (by omega) (by omega) (by omega) (by omega) rfl (by omega) rfl) rfl ?_
   refine vc_clearE 0 rfl eStr (⟨#[]⟩ : ByteArray) Tryz.underlying136 ze_9 rfl rfl (by omega) (by simp only [List.length_append, flat_length, over_len (show i ≤ xs.length by omega), List.length_drop]; have := Nat.le_max_left xs.length (i + (xs.length - j)); have := Nat.mul_le_mul_right (Enc.sz eStr) this; omega) rfl ?_
   refine vc_cells 0 (pre ++ flat eStr (xs.take i ++ xs.drop j) ++ (flat eStr (List.replicate (j - i) (⟨#[]⟩ : ByteArray)) ++ post)) rfl (by
    rw [splice_flat eStr (by rw [over_len (by omega)]; omega), over_del (⟨#[]⟩ : ByteArray) hi hj rfl, over_len (by omega), List.length_replicate, List.length_drop, show i + (xs.length - j) + (j - i) - max xs.length (i + (xs.length - j)) = 0 by omega]
    simp [flat_append]) ?_
   refine vc_turn 0 rfl (Sl eStr ⟨some ⟨b, pre.length, none⟩, i + (xs.drop j).length, hhc⟩ (xs.take i ++ xs.drop j)) (VS.of_ent (sl_close rfl (by simp; omega) (by simp only [List.length_append, flat_length, List.length_replicate, List.length_drop, List.length_take]; have : (hhc - (min i xs.length + (xs.length - j))) * Enc.sz eStr ≤ ((j - i) + (hhc - xs.length)) * Enc.sz eStr := Nat.mul_le_mul_right _ (by omega); rw [Nat.add_mul] at this; omega) (by simp; omega))) ?_
   refine vc_nil ?_
   refine vc_then ?_
   refine vc_seq ?_
   refine vc_region ?_
   refine vp ?_
   refine vp ?_
   refine vc_nil ?_
   refine vc_then ?_
   refine vc_ret ?_
   exact vc_end1 Tryz.results190 rfl _ (ent_pick [0] rfl) ⟨_, rfl, rfl⟩
  exact vo_nil
theorem delI_spec {h : SH} {xs : List Int} {i j : Nat} (hi : i ≤ j) (hj : j ≤ xs.length) (hb : xs.length ≤ 1000000) :
  Does Tryz.prog 191 [h.v, .int .i64 (i : Int), .int .i64 (j : Int)] [Sl eInt h xs] (fun v l => ∃ h', v = h'.v ∧ l = [Sl eInt h' (xs.take i ++ xs.drop j)]) := by
 refine spec_of Tryz.func191 rfl Tryz.ntmps191 Tryz.results191 _ (by simp) fun ι F => ?_
 refine vc_see 0 rfl (Sl.vis.imp fun w r => (⟨r.len, r.cap⟩ : h.len = xs.length ∧ xs.length ≤ h.cap)) (fun hlc => ?_)
 obtain ⟨hlen, hcap⟩ := hlc
 refine vc_seq ?_
 refine vc_region ?_
 refine vp ?_
 refine vc_nil ?_
 refine vc_then ?_
 refine vc_seq ?_
 refine vc_region ?_
 iterate 4 refine vp ?_
 refine vc_y (y_len Tryz.underlying72 rfl hlen) rfl ?_
 refine vc_y (y_slice sl_72 rfl i j xs.length ⟨_, _, rfl, rfl⟩ ⟨_, _, rfl, rfl⟩ ⟨_, _, rfl, rfl⟩ (by simp) (by omega) (by omega) (by omega)) rfl ?_
 refine vc_nil ?_
 refine vc_then ?_
 refine vc_seq ?_
 refine vc_seq ?_
 refine vc_region ?_
 iterate 3 refine vp ?_
 refine vc_nil ?_
 refine vc_then ?_
 first | refine vc_condP rfl (fun c16 => ?_) (fun c16 => ?_) | refine vc_condN rfl (fun c16 => ?_) (fun c16 => ?_) | refine vc_cond rfl (fun c16 => ?_) (fun c16 => ?_)
 ·skip
  obtain rfl : i = j := by omega
  refine vc_seq ?_
  refine vc_region ?_
  refine vp ?_
  refine vp ?_
  refine vc_nil ?_
  refine vc_then ?_
  refine vc_ret ?_
  refine vc_thenRet ?_
  exact vc_end1 Tryz.results191 rfl _ (ent_pick [0] rfl) ⟨h, rfl, by simp⟩
 ·skip
  have hij : i < j := by omega
  refine vc_open 0 rfl (by omega) (fun b pre post hh hc2 hpost => ?_)
  obtain ⟨hha, hhl, hhc⟩ := h
  simp only [SH.mk.injEq] at hh
  obtain ⟨rfl, rfl, _⟩ := hh
  simp only [] at hlen hcap hc2 hpost
  have hbd := Nat.mul_le_mul_right (Enc.sz eInt) (show i + (xs.length - j) ≤ xs.length by omega)
  have hbd2 := Nat.mul_le_mul_right (Enc.sz eInt) (show (i + (xs.length - j)) + (j - i) ≤ xs.length by omega)
  rw [Nat.add_mul] at hbd hbd2
  refine vc_skip ?_
  refine vc_then ?_
  refine vc_seq ?_
  refine vc_region ?_
  refine vp ?_
  refine vc_y (y_len Tryz.underlying72 rfl rfl) rfl ?_
  refine vp ?_
  refine vc_nil ?_
  refine vc_then ?_
  refine vc_seq ?_
  refine vc_draw (by kernel_rfl) _ none [] rfl ?_
  refine tpp 0 ?_
  refine tpp 1 ?_
  refine va_take 2 rfl (by kernel_rfl) (by kernel_rfl) (by kernel_rfl) (by kernel_rfl) (fun _ _ _ h => h) (fun _ _ => rfl) (by exact y_sliceR sl_72 rfl 0 i hhc pre.length i hhc rfl ⟨_, _, rfl, rfl⟩ rfl (by simp) (by omega) (by omega) (by omega) (by omega) (by simp) (by omega) rfl) rfl ?_
  refine tpp 3 ?_
  refine tpp 4 ?_
  refine va_take 5 rfl (by kernel_rfl) (by kernel_rfl) (by kernel_rfl) (by kernel_rfl) (fun _ _ _ h => h) (fun _ _ => rfl) (by exact y_slice sl_72 (h := ⟨some ⟨b, pre.length, none⟩, xs.length, hhc⟩) rfl j xs.length hhc ⟨_, _, rfl, rfl⟩ rfl rfl (by simp) (by omega) (by omega) (by simp)) rfl ?_
  refine va_ready [6] (by kernel_rfl) rfl ?_
  refine vo_cons rfl (fun hC0 => ?_) ?_
  ·skip
   refine vc_appendRaw 0 rfl (E := eInt) (xs.drop j) 0 rfl ((Pts.rd hc2).imp fun w r => by have := r.cut hj (Nat.le_refl _) hc2 (Nat.le_refl _); rw [List.take_length] at this; exact this) el_72_eInt Tryz.underlying72 rfl rfl (by simp; omega) (by simp only [List.length_append, flat_length, List.length_drop]; omega) rfl ?_
   refine vc_cells 0 (pre ++ flat eInt (over xs i (xs.drop j)) ++ post) rfl (by rw [splice_flat eInt (by omega), List.length_drop, show i + (xs.length - j) - xs.length = 0 by omega]; simp) ?_
   refine vc_nil ?_
   refine vc_then ?_
   refine va_kept hC0 [] rfl ?_
   refine tpp 7 ?_
   refine va_done (by kernel_rfl) ?_
   refine vc_then ?_
   refine vc_seq ?_
   refine vc_region ?_
   refine vp ?_
   refine vp ?_
   refine vc_y (y_len Tryz.underlying72 (h := ⟨some ⟨b, pre.length, none⟩, i + (xs.drop j).length, hhc⟩) rfl (m := i + (xs.length - j)) (by simp)) rfl ?_
   refine vp ?_
   refine vc_y (y_sliceR sl_72 rfl (i + (xs.length - j)) xs.length hhc (pre.length + (i + (xs.length - j)) * Enc.sz eInt) (j - i) _ ⟨_, _, rfl, rfl⟩ ⟨_, _, rfl, rfl⟩ rfl (by simp) (by omega) (by omega) (by omega) (by omega) rfl (by omega) rfl) rfl ?_
   refine vc_clearE 0 rfl eInt (0 : Int) Tryz.underlying72 ze_3 rfl rfl (by omega) (by simp only [List.length_append, flat_length, over_len (show i ≤ xs.length by omega), List.length_drop]; have := Nat.le_max_left xs.length (i + (xs.length - j)); have := Nat.mul_le_mul_right (Enc.sz eInt) this; omega) rfl ?_
   refine vc_cells 0 (pre ++ flat eInt (xs.take i ++ xs.drop j) ++ (flat eInt (List.replicate (j - i) (0 : Int)) ++ post)) rfl (by
    rw [splice_flat eInt (by rw [over_len (by omega)]; omega), over_del (0 : Int) hi hj rfl, over_len (by omega), List.length_replicate, List.length_drop, show i + (xs.length - j) + (j - i) - max xs.length (i + (xs.length - j)) = 0 by omega]
    simp [flat_append]) ?_
   refine vc_turn 0 rfl (Sl eInt ⟨some ⟨b, pre.length, none⟩, i + (xs.drop j).length, hhc⟩ (xs.take i ++ xs.drop j)) (VS.of_ent (sl_close rfl (by simp; omega) (by simp only [List.length_append, flat_length, List.length_replicate, List.length_drop, List.length_take]; have : (hhc - (min i xs.length + (xs.length - j))) * Enc.sz eInt ≤ ((j - i) + (hhc - xs.length)) * Enc.sz eInt := Nat.mul_le_mul_right _ (by omega); rw [Nat.add_mul] at this; omega) (by simp; omega))) ?_
   refine vc_nil ?_
   refine vc_then ?_
   refine vc_seq ?_
   refine vc_region ?_
   refine vp ?_
   refine vp ?_
   refine vc_nil ?_
   refine vc_then ?_
   refine vc_ret ?_
   exact vc_end1 Tryz.results191 rfl _ (ent_pick [0] rfl) ⟨_, rfl, rfl⟩
  exact vo_nil
theorem delN_spec {h : SH} {xs : List Nat} {i j : Nat} (hi : i ≤ j) (hj : j ≤ xs.length) (hb : xs.length ≤ 1000000) :
  Does Tryz.prog 191 [h.v, .int .i64 (i : Int), .int .i64 (j : Int)] [Sl eNat h xs] (fun v l => ∃ h', v = h'.v ∧ l = [Sl eNat h' (xs.take i ++ xs.drop j)]) := by
 refine spec_of Tryz.func191 rfl Tryz.ntmps191 Tryz.results191 _ (by simp) fun ι F => ?_
 refine vc_see 0 rfl (Sl.vis.imp fun w r => (⟨r.len, r.cap⟩ : h.len = xs.length ∧ xs.length ≤ h.cap)) (fun hlc => ?_)
 obtain ⟨hlen, hcap⟩ := hlc
 refine vc_seq ?_
 refine vc_region ?_
 refine vp ?_
 refine vc_nil ?_
 refine vc_then ?_
 refine vc_seq ?_
 refine vc_region ?_
 iterate 4 refine vp ?_
 refine vc_y (y_len Tryz.underlying72 rfl hlen) rfl ?_
 refine vc_y (y_slice sl_72 rfl i j xs.length ⟨_, _, rfl, rfl⟩ ⟨_, _, rfl, rfl⟩ ⟨_, _, rfl, rfl⟩ (by simp) (by omega) (by omega) (by omega)) rfl ?_
 refine vc_nil ?_
 refine vc_then ?_
 refine vc_seq ?_
 refine vc_seq ?_
 refine vc_region ?_
 iterate 3 refine vp ?_
 refine vc_nil ?_
 refine vc_then ?_
 first | refine vc_condP rfl (fun c16 => ?_) (fun c16 => ?_) | refine vc_condN rfl (fun c16 => ?_) (fun c16 => ?_) | refine vc_cond rfl (fun c16 => ?_) (fun c16 => ?_)
 ·skip
  obtain rfl : i = j := by omega
  refine vc_seq ?_
  refine vc_region ?_
  refine vp ?_
  refine vp ?_
  refine vc_nil ?_
  refine vc_then ?_
  refine vc_ret ?_
  refine vc_thenRet ?_
  exact vc_end1 Tryz.results191 rfl _ (ent_pick [0] rfl) ⟨h, rfl, by simp⟩
 ·skip
  have hij : i < j := by omega
  refine vc_open 0 rfl (by omega) (fun b pre post hh hc2 hpost => ?_)
  obtain ⟨hha, hhl, hhc⟩ := h
  simp only [SH.mk.injEq] at hh
  obtain ⟨rfl, rfl, _⟩ := hh
  simp only [] at hlen hcap hc2 hpost
  have hbd := Nat.mul_le_mul_right (Enc.sz eNat) (show i + (xs.length - j) ≤ xs.length by omega)
  have hbd2 := Nat.mul_le_mul_right (Enc.sz eNat) (show (i + (xs.length - j)) + (j - i) ≤ xs.length by omega)
  rw [Nat.add_mul] at hbd hbd2
  refine vc_skip ?_
  refine vc_then ?_
  refine vc_seq ?_
  refine vc_region ?_
  refine vp ?_
  refine vc_y (y_len Tryz.underlying72 rfl rfl) rfl ?_
  refine vp ?_
  refine vc_nil ?_
  refine vc_then ?_
  refine vc_seq ?_
  refine vc_draw (by kernel_rfl) _ none [] rfl ?_
  refine tpp 0 ?_
  refine tpp 1 ?_
  refine va_take 2 rfl (by kernel_rfl) (by kernel_rfl) (by kernel_rfl) (by kernel_rfl) (fun _ _ _ h => h) (fun _ _ => rfl) (by exact y_sliceR sl_72 rfl 0 i hhc pre.length i hhc rfl ⟨_, _, rfl, rfl⟩ rfl (by simp) (by omega) (by omega) (by omega) (by omega) (by simp) (by omega) rfl) rfl ?_
  refine tpp 3 ?_
  refine tpp 4 ?_
  refine va_take 5 rfl (by kernel_rfl) (by kernel_rfl) (by kernel_rfl) (by kernel_rfl) (fun _ _ _ h => h) (fun _ _ => rfl) (by exact y_slice sl_72 (h := ⟨some ⟨b, pre.length, none⟩, xs.length, hhc⟩) rfl j xs.length hhc ⟨_, _, rfl, rfl⟩ rfl rfl (by simp) (by omega) (by omega) (by simp)) rfl ?_
  refine va_ready [6] (by kernel_rfl) rfl ?_
  refine vo_cons rfl (fun hC0 => ?_) ?_
  ·skip
   refine vc_appendRaw 0 rfl (E := eNat) (xs.drop j) 0 rfl ((Pts.rd hc2).imp fun w r => by have := r.cut hj (Nat.le_refl _) hc2 (Nat.le_refl _); rw [List.take_length] at this; exact this) el_72_eNat Tryz.underlying72 rfl rfl (by simp; omega) (by simp only [List.length_append, flat_length, List.length_drop]; omega) rfl ?_
   refine vc_cells 0 (pre ++ flat eNat (over xs i (xs.drop j)) ++ post) rfl (by rw [splice_flat eNat (by omega), List.length_drop, show i + (xs.length - j) - xs.length = 0 by omega]; simp) ?_
   refine vc_nil ?_
   refine vc_then ?_
   refine va_kept hC0 [] rfl ?_
   refine tpp 7 ?_
   refine va_done (by kernel_rfl) ?_
   refine vc_then ?_
   refine vc_seq ?_
   refine vc_region ?_
   refine vp ?_
   refine vp ?_
   refine vc_y (y_len Tryz.underlying72 (h := ⟨some ⟨b, pre.length, none⟩, i + (xs.drop j).length, hhc⟩) rfl (m := i + (xs.length - j)) (by simp)) rfl ?_
   refine vp ?_
   refine vc_y (y_sliceR sl_72 rfl (i + (xs.length - j)) xs.length hhc (pre.length + (i + (xs.length - j)) * Enc.sz eNat) (j - i) _ ⟨_, _, rfl, rfl⟩ ⟨_, _, rfl, rfl⟩ rfl (by simp) (by omega) (by omega) (by omega) (by omega) rfl (by omega) rfl) rfl ?_
   refine vc_clearE 0 rfl eNat (0 : Nat) Tryz.underlying72 ze_3 rfl rfl (by omega) (by simp only [List.length_append, flat_length, over_len (show i ≤ xs.length by omega), List.length_drop]; have := Nat.le_max_left xs.length (i + (xs.length - j)); have := Nat.mul_le_mul_right (Enc.sz eNat) this; omega) rfl ?_
   refine vc_cells 0 (pre ++ flat eNat (xs.take i ++ xs.drop j) ++ (flat eNat (List.replicate (j - i) (0 : Nat)) ++ post)) rfl (by
    rw [splice_flat eNat (by rw [over_len (by omega)]; omega), over_del (0 : Nat) hi hj rfl, over_len (by omega), List.length_replicate, List.length_drop, show i + (xs.length - j) + (j - i) - max xs.length (i + (xs.length - j)) = 0 by omega]
    simp [flat_append]) ?_
   refine vc_turn 0 rfl (Sl eNat ⟨some ⟨b, pre.length, none⟩, i + (xs.drop j).length, hhc⟩ (xs.take i ++ xs.drop j)) (VS.of_ent (sl_close rfl (by simp; omega) (by simp only [List.length_append, flat_length, List.length_replicate, List.length_drop, List.length_take]; have : (hhc - (min i xs.length + (xs.length - j))) * Enc.sz eNat ≤ ((j - i) + (hhc - xs.length)) * Enc.sz eNat := Nat.mul_le_mul_right _ (by omega); rw [Nat.add_mul] at this; omega) (by simp; omega))) ?_
   refine vc_nil ?_
   refine vc_then ?_
   refine vc_seq ?_
   refine vc_region ?_
   refine vp ?_
   refine vp ?_
   refine vc_nil ?_
   refine vc_then ?_
   refine vc_ret ?_
   exact vc_end1 Tryz.results191 rfl _ (ent_pick [0] rfl) ⟨_, rfl, rfl⟩
  exact vo_nil
theorem delU_spec {h : SH} {xs : List Int} {i j : Nat} (hi : i ≤ j) (hj : j ≤ xs.length) (hb : xs.length ≤ 1000000) :
  Does Tryz.prog 122 [h.v, .int .i64 (i : Int), .int .i64 (j : Int)] [Sl eU64 h xs] (fun v l => ∃ h', v = h'.v ∧ l = [Sl eU64 h' (xs.take i ++ xs.drop j)]) := by
 refine spec_of Tryz.func122 rfl Tryz.ntmps122 Tryz.results122 _ (by simp) fun ι F => ?_
 refine vc_see 0 rfl (Sl.vis.imp fun w r => (⟨r.len, r.cap⟩ : h.len = xs.length ∧ xs.length ≤ h.cap)) (fun hlc => ?_)
 obtain ⟨hlen, hcap⟩ := hlc
 refine vc_seq ?_
 refine vc_region ?_
 refine vp ?_
 refine vc_nil ?_
 refine vc_then ?_
 refine vc_seq ?_
 refine vc_region ?_
 iterate 4 refine vp ?_
 refine vc_y (y_len Tryz.underlying22 rfl hlen) rfl ?_
 refine vc_y (y_slice sl_22 rfl i j xs.length ⟨_, _, rfl, rfl⟩ ⟨_, _, rfl, rfl⟩ ⟨_, _, rfl, rfl⟩ (by simp) (by omega) (by omega) (by omega)) rfl ?_
 refine vc_nil ?_
 refine vc_then ?_
 refine vc_seq ?_
 refine vc_seq ?_
 refine vc_region ?_
 iterate 3 refine vp ?_
 refine vc_nil ?_
 refine vc_then ?_
 first | refine vc_condP rfl (fun c16 => ?_) (fun c16 => ?_) | refine vc_condN rfl (fun c16 => ?_) (fun c16 => ?_) | refine vc_cond rfl (fun c16 => ?_) (fun c16 => ?_)
 ·skip
  obtain rfl : i = j := by omega
  refine vc_seq ?_
  refine vc_region ?_
  refine vp ?_
  refine vp ?_
  refine vc_nil ?_
  refine vc_then ?_
  refine vc_ret ?_
  refine vc_thenRet ?_
  exact vc_end1 Tryz.results122 rfl _ (ent_pick [0] rfl) ⟨h, rfl, by simp⟩
 ·skip
  have hij : i < j := by omega
  refine vc_open 0 rfl (by omega) (fun b pre post hh hc2 hpost => ?_)
  obtain ⟨hha, hhl, hhc⟩ := h
  simp only [SH.mk.injEq] at hh
  obtain ⟨rfl, rfl, _⟩ := hh
  simp only [] at hlen hcap hc2 hpost
  have hbd := Nat.mul_le_mul_right (Enc.sz eU64) (show i + (xs.length - j) ≤ xs.length by omega)
  have hbd2 := Nat.mul_le_mul_right (Enc.sz eU64) (show (i + (xs.length - j)) + (j - i) ≤ xs.length by omega)
  rw [Nat.add_mul] at hbd hbd2
  refine vc_skip ?_
  refine vc_then ?_
  refine vc_seq ?_
  refine vc_region ?_
  refine vp ?_
  refine vc_y (y_len Tryz.underlying22 rfl rfl) rfl ?_
  refine vp ?_
  refine vc_nil ?_
  refine vc_then ?_
  refine vc_seq ?_
  refine vc_draw (by kernel_rfl) _ none [] rfl ?_
  refine tpp 0 ?_
  refine tpp 1 ?_
  refine va_take 2 rfl (by kernel_rfl) (by kernel_rfl) (by kernel_rfl) (by kernel_rfl) (fun _ _ _ h => h) (fun _ _ => rfl) (by exact y_sliceR sl_22 rfl 0 i hhc pre.length i hhc rfl ⟨_, _, rfl, rfl⟩ rfl (by simp) (by omega) (by omega) (by omega) (by omega) (by simp) (by omega) rfl) rfl ?_
  refine tpp 3 ?_
  refine tpp 4 ?_
  refine va_take 5 rfl (by kernel_rfl) (by kernel_rfl) (by kernel_rfl) (by kernel_rfl) (fun _ _ _ h => h) (fun _ _ => rfl) (by exact y_slice sl_22 (h := ⟨some ⟨b, pre.length, none⟩, xs.length, hhc⟩) rfl j xs.length hhc ⟨_, _, rfl, rfl⟩ rfl rfl (by simp) (by omega) (by omega) (by simp)) rfl ?_
  refine va_ready [6] (by kernel_rfl) rfl ?_
  refine vo_cons rfl (fun hC0 => ?_) ?_
  ·skip
   refine vc_appendRaw 0 rfl (E := eU64) (xs.drop j) 0 rfl ((Pts.rd hc2).imp fun w r => by have := r.cut hj (Nat.le_refl _) hc2 (Nat.le_refl _); rw [List.take_length] at this; exact this) el_22_eU64 Tryz.underlying22 rfl rfl (by simp; omega) (by simp only [List.length_append, flat_length, List.length_drop]; omega) rfl ?_
   refine vc_cells 0 (pre ++ flat eU64 (over xs i (xs.drop j)) ++ post) rfl (by rw [splice_flat eU64 (by omega), List.length_drop, show i + (xs.length - j) - xs.length = 0 by omega]; simp) ?_
   refine vc_nil ?_
   refine vc_then ?_
   refine va_kept hC0 [] rfl ?_
   refine tpp 7 ?_
   refine va_done (by kernel_rfl) ?_
   refine vc_then ?_
   refine vc_seq ?_
   refine vc_region ?_
   refine vp ?_
   refine vp ?_
   refine vc_y (y_len Tryz.underlying22 (h := ⟨some ⟨b, pre.length, none⟩, i + (xs.drop j).length, hhc⟩) rfl (m := i + (xs.length - j)) (by simp)) rfl ?_
   refine vp ?_
   refine vc_y (y_sliceR sl_22 rfl (i + (xs.length - j)) xs.length hhc (pre.length + (i + (xs.length - j)) * Enc.sz eU64) (j - i) _ ⟨_, _, rfl, rfl⟩ ⟨_, _, rfl, rfl⟩ rfl (by simp) (by omega) (by omega) (by omega) (by omega) rfl (by omega) rfl) rfl ?_
   refine vc_clearE 0 rfl eU64 (0 : Int) Tryz.underlying22 ze_34 rfl rfl (by omega) (by simp only [List.length_append, flat_length, over_len (show i ≤ xs.length by omega), List.length_drop]; have := Nat.le_max_left xs.length (i + (xs.length - j)); have := Nat.mul_le_mul_right (Enc.sz eU64) this; omega) rfl ?_
   refine vc_cells 0 (pre ++ flat eU64 (xs.take i ++ xs.drop j) ++ (flat eU64 (List.replicate (j - i) (0 : Int)) ++ post)) rfl (by
    rw [splice_flat eU64 (by rw [over_len (by omega)]; omega), over_del (0 : Int) hi hj rfl, over_len (by omega), List.length_replicate, List.length_drop, show i + (xs.length - j) + (j - i) - max xs.length (i + (xs.length - j)) = 0 by omega]
    simp [flat_append]) ?_
   refine vc_turn 0 rfl (Sl eU64 ⟨some ⟨b, pre.length, none⟩, i + (xs.drop j).length, hhc⟩ (xs.take i ++ xs.drop j)) (VS.of_ent (sl_close rfl (by simp; omega) (by simp only [List.length_append, flat_length, List.length_replicate, List.length_drop, List.length_take]; have : (hhc - (min i xs.length + (xs.length - j))) * Enc.sz eU64 ≤ ((j - i) + (hhc - xs.length)) * Enc.sz eU64 := Nat.mul_le_mul_right _ (by omega); rw [Nat.add_mul] at this; omega) (by simp; omega))) ?_
   refine vc_nil ?_
   refine vc_then ?_
   refine vc_seq ?_
   refine vc_region ?_
   refine vp ?_
   refine vp ?_
   refine vc_nil ?_
   refine vc_then ?_
   refine vc_ret ?_
   exact vc_end1 Tryz.results122 rfl _ (ent_pick [0] rfl) ⟨_, rfl, rfl⟩
  exact vo_nil
end Go.Proofs.YtcpbibdbahfgaaaGreat
