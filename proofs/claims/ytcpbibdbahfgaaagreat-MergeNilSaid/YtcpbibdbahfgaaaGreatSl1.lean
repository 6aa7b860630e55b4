/-
 Clones.
-/
import Derived.Test.YtcpbibdbahfgaaaGreatEng8
import Derived.Test.YtcpbibdbahfgaaaGreatTreeP
set_option linter.unusedVariables false
set_option linter.unusedSimpArgs false
set_option autoImplicit false
namespace Go.Proofs.YtcpbibdbahfgaaaGreat
open Go.Eng
namespace FSl1
theorem sz_9 : (Tryz.prog.info? 9).map (·.size) = some 1 := by kernel_rfl
theorem ze_9 : (Tryz.prog.info? 9).map (·.zero) = some (some (.string ⟨#[]⟩)) := by kernel_rfl
theorem bs_136_0   (w : World) : (Instr.buildSlice 136 0 #[]).run Tryz.prog w = .ok (.slice (some ⟨w.heap.size, 0, none⟩) 0 0) { w with heap := w.heap.push (.cells #[] 9 (0, 0)) } :=
 Go.Eng.run_buildSlice Tryz.underlying136 sz_9 ze_9 (by decide) (by rw [show Array.range (0 * 1) = #[] from by decide]; simp [Instr.fill, cells_agg]) w
theorem el_136_eStr : TyEl Tryz.prog 136 eStr 16 := ⟨Tryz.underlying136, .string ⟨#[]⟩, by kernel_rfl, rfl⟩
theorem sz_3 : (Tryz.prog.info? 3).map (·.size) = some 1 := by kernel_rfl
theorem ze_3 : (Tryz.prog.info? 3).map (·.zero) = some (some (.int .i64 0)) := by kernel_rfl
theorem bs_72_0   (w : World) : (Instr.buildSlice 72 0 #[]).run Tryz.prog w = .ok (.slice (some ⟨w.heap.size, 0, none⟩) 0 0) { w with heap := w.heap.push (.cells #[] 3 (0, 0)) } :=
 Go.Eng.run_buildSlice Tryz.underlying72 sz_3 ze_3 (by decide) (by rw [show Array.range (0 * 1) = #[] from by decide]; simp [Instr.fill, cells_agg]) w
theorem el_72_eInt : TyEl Tryz.prog 72 eInt 8 := ⟨Tryz.underlying72, .int .i64 0, by kernel_rfl, rfl⟩
theorem el_72_eNat : TyEl Tryz.prog 72 eNat 8 := ⟨Tryz.underlying72, .int .i64 0, by kernel_rfl, rfl⟩
theorem sz_34 : (Tryz.prog.info? 34).map (·.size) = some 1 := by kernel_rfl
theorem ze_34 : (Tryz.prog.info? 34).map (·.zero) = some (some (.int .u64 0)) := by kernel_rfl
theorem bs_22_0   (w : World) : (Instr.buildSlice 22 0 #[]).run Tryz.prog w = .ok (.slice (some ⟨w.heap.size, 0, none⟩) 0 0) { w with heap := w.heap.push (.cells #[] 34 (0, 0)) } :=
 Go.Eng.run_buildSlice Tryz.underlying22 sz_34 ze_34 (by decide) (by rw [show Array.range (0 * 1) = #[] from by decide]; simp [Instr.fill, cells_agg]) w
theorem el_22_eU64 : TyEl Tryz.prog 22 eU64 8 := ⟨Tryz.underlying22, .int .u64 0, by kernel_rfl, rfl⟩
end FSl1
open FSl1
theorem cloneS_spec {A : HP} {h : SH} {xs : List ByteArray} (hv : Vis A (Rd eStr h xs)) (hb : xs.length ≤ 1000000) :
  Does Tryz.prog 195 [h.v] [A] (fun v l => ∃ h', v = h'.v ∧ l = [Sl eStr h' xs, A]) := by
 refine spec_of Tryz.func195 rfl Tryz.ntmps195 Tryz.results195 _ (by simp) fun ι F => ?_
 refine vc_see 0 rfl (hv.imp fun w r => (⟨r.len, r.adr⟩ : h.len = xs.length ∧ (h.a = some ⟨h.blk, h.off, none⟩ ∨ (xs = [] ∧ h.cap = 0)))) (fun hlen => ?_)
 refine vc_seq ?_
 refine vc_region ?_
 refine vp ?_
 refine vc_nil ?_
 refine vc_then ?_
 refine vc_seq ?_
 refine vc_seq ?_
 refine vc_region ?_
 refine vp ?_
 refine vc_y (y_sliceNil Tryz.underlying136 rfl rfl) rfl ?_
 refine vc_nil ?_
 refine vc_then ?_
 first | refine vc_condP rfl (fun c4 => ?_) (fun c4 => ?_) | refine vc_condN rfl (fun c4 => ?_) (fun c4 => ?_) | refine vc_cond rfl (fun c4 => ?_) (fun c4 => ?_)
 ·skip
  obtain rfl : xs = [] := by
   rcases hlen.2 with h0 | h0
   ·rw [h0] at c4; cases c4
   ·exact h0.1
  refine vc_ent (l' := Sl eStr nilS [] :: _) sl_new ?_
  refine vc_seq ?_
  refine vc_region ?_
  refine vp ?_
  refine vc_nil ?_
  refine vc_then ?_
  refine vc_ret ?_
  refine vc_thenRet ?_
  exact vc_end1 Tryz.results195 rfl _ (Ent.rfl) ⟨nilS, rfl, rfl⟩
 ·skip
  refine vc_skip ?_
  refine vc_then ?_
  refine vc_seq ?_
  refine vc_region ?_
  refine vc_buildSlice (E := eStr) [] [] rfl rfl (bs_136_0  ) rfl (fun h5 => ?_)
  refine vp ?_
  refine vc_append 0 rfl 1 rfl (hv) el_136_eStr Tryz.underlying136 rfl rfl (by simp; omega) (by simp; omega) rfl (fun h7 => ?_)
  refine vp ?_
  refine vc_nil ?_
  refine vc_then ?_
  refine vc_ret ?_
  exact vc_end1 Tryz.results195 rfl _ (ent_pick [0, 0] rfl) ⟨h7, rfl, rfl⟩
theorem cloneI_spec {A : HP} {h : SH} {xs : List Int} (hv : Vis A (Rd eInt h xs)) (hb : xs.length ≤ 1000000) :
  Does Tryz.prog 196 [h.v] [A] (fun v l => ∃ h', v = h'.v ∧ l = [Sl eInt h' xs, A]) := by
 refine spec_of Tryz.func196 rfl Tryz.ntmps196 Tryz.results196 _ (by simp) fun ι F => ?_
 refine vc_see 0 rfl (hv.imp fun w r => (⟨r.len, r.adr⟩ : h.len = xs.length ∧ (h.a = some ⟨h.blk, h.off, none⟩ ∨ (xs = [] ∧ h.cap = 0)))) (fun hlen => ?_)
 refine vc_seq ?_
 refine vc_region ?_
 refine vp ?_
 refine vc_nil ?_
 refine vc_then ?_
 refine vc_seq ?_
 refine vc_seq ?_
 refine vc_region ?_
 refine vp ?_
 refine vc_y (y_sliceNil Tryz.underlying72 rfl rfl) rfl ?_
 refine vc_nil ?_
 refine vc_then ?_
 first | refine vc_condP rfl (fun c4 => ?_) (fun c4 => ?_) | refine vc_condN rfl (fun c4 => ?_) (fun c4 => ?_) | refine vc_cond rfl (fun c4 => ?_) (fun c4 => ?_)
 ·skip
  obtain rfl : xs = [] := by
   rcases hlen.2 with h0 | h0
   ·rw [h0] at c4; cases c4
   ·exact h0.1
  refine vc_ent (l' := Sl eInt nilS [] :: _) sl_new ?_
  refine vc_seq ?_
  refine vc_region ?_
  refine vp ?_
  refine vc_nil ?_
  refine vc_then ?_
  refine vc_ret ?_
  refine vc_thenRet ?_
  exact vc_end1 Tryz.results196 rfl _ (Ent.rfl) ⟨nilS, rfl, rfl⟩
 ·skip
  refine vc_skip ?_
  refine vc_then ?_
  refine vc_seq ?_
  refine vc_region ?_
  refine vc_buildSlice (E := eInt) [] [] rfl rfl (bs_72_0  ) rfl (fun h5 => ?_)
  refine vp ?_
  refine vc_append 0 rfl 1 rfl (hv) el_72_eInt Tryz.underlying72 rfl rfl (by simp; omega) (by simp; omega) rfl (fun h7 => ?_)
  refine vp ?_
  refine vc_nil ?_
  refine vc_then ?_
  refine vc_ret ?_
  exact vc_end1 Tryz.results196 rfl _ (ent_pick [0, 0] rfl) ⟨h7, rfl, rfl⟩
theorem cloneN_spec {A : HP} {h : SH} {xs : List Nat} (hv : Vis A (Rd eNat h xs)) (hb : xs.length ≤ 1000000) :
  Does Tryz.prog 196 [h.v] [A] (fun v l => ∃ h', v = h'.v ∧ l = [Sl eNat h' xs, A]) := by
 refine spec_of Tryz.func196 rfl Tryz.ntmps196 Tryz.results196 _ (by simp) fun ι F => ?_
 refine vc_see 0 rfl (hv.imp fun w r => (⟨r.len, r.adr⟩ : h.len = xs.length ∧ (h.a = some ⟨h.blk, h.off, none⟩ ∨ (xs = [] ∧ h.cap = 0)))) (fun hlen => ?_)
 refine vc_seq ?_
 refine vc_region ?_
 refine vp ?_
 refine vc_nil ?_
 refine vc_then ?_
 refine vc_seq ?_
 refine vc_seq ?_
 refine vc_region ?_
 refine vp ?_
 refine vc_y (y_sliceNil Tryz.underlying72 rfl rfl) rfl ?_
 refine vc_nil ?_
 refine vc_then ?_
 first | refine vc_condP rfl (fun c4 => ?_) (fun c4 => ?_) | refine vc_condN rfl (fun c4 => ?_) (fun c4 => ?_) | refine vc_cond rfl (fun c4 => ?_) (fun c4 => ?_)
 ·skip
  obtain rfl : xs = [] := by
   rcases hlen.2 with h0 | h0
   ·rw [h0] at c4; cases c4
   ·exact h0.1
  refine vc_ent (l' := Sl eNat nilS [] :: _) sl_new ?_
  refine vc_seq ?_
  refine vc_region ?_
  refine vp ?_
  refine vc_nil ?_
  refine vc_then ?_
  refine vc_ret ?_
  refine vc_thenRet ?_
  exact vc_end1 Tryz.results196 rfl _ (Ent.rfl) ⟨nilS, rfl, rfl⟩
 ·skip
  refine vc_skip ?_
  refine vc_then ?_
  refine vc_seq ?_
  refine vc_region ?_
  refine vc_buildSlice (E := eNat) [] [] rfl rfl (bs_72_0  ) rfl (fun h5 => ?_)
  refine vp ?_
  refine vc_append 0 rfl 1 rfl (hv) el_72_eNat Tryz.underlying72 rfl rfl (by simp; omega) (by simp; omega) rfl (fun h7 => ?_)
  refine vp ?_
  refine vc_nil ?_
  refine vc_then ?_
  refine vc_ret ?_
  exact vc_end1 Tryz.results196 rfl _ (ent_pick [0, 0] rfl) ⟨h7, rfl, rfl⟩
theorem cloneU_spec {A : HP} {h : SH} {xs : List Int} (hv : Vis A (Rd eU64 h xs)) (hb : xs.length ≤ 1000000) :
  Does Tryz.prog 101 [h.v] [A] (fun v l => ∃ h', v = h'.v ∧ l = [Sl eU64 h' xs, A]) := by
 refine spec_of Tryz.func101 rfl Tryz.ntmps101 Tryz.results101 _ (by simp) fun ι F => ?_
 refine vc_see 0 rfl (hv.imp fun w r => (⟨r.len, r.adr⟩ : h.len = xs.length ∧ (h.a = some ⟨h.blk, h.off, none⟩ ∨ (xs = [] ∧ h.cap = 0)))) (fun hlen => ?_)
 refine vc_seq ?_
 refine vc_region ?_
 refine vp ?_
 refine vc_nil ?_
 refine vc_then ?_
 refine vc_seq ?_
 refine vc_seq ?_
 refine vc_region ?_
 refine vp ?_
 refine vc_y (y_sliceNil Tryz.underlying22 rfl rfl) rfl ?_
 refine vc_nil ?_
 refine vc_then ?_
 first | refine vc_condP rfl (fun c4 => ?_) (fun c4 => ?_) | refine vc_condN rfl (fun c4 => ?_) (fun c4 => ?_) | refine vc_cond rfl (fun c4 => ?_) (fun c4 => ?_)
 ·skip
  obtain rfl : xs = [] := by
   rcases hlen.2 with h0 | h0
   ·rw [h0] at c4; cases c4
   ·exact h0.1
  refine vc_ent (l' := Sl eU64 nilS [] :: _) sl_new ?_
  refine vc_seq ?_
  refine vc_region ?_
  refine vp ?_
  refine vc_nil ?_
  refine vc_then ?_
  refine vc_ret ?_
  refine vc_thenRet ?_
  exact vc_end1 Tryz.results101 rfl _ (Ent.rfl) ⟨nilS, rfl, rfl⟩
 ·skip
  refine vc_skip ?_
  refine vc_then ?_
  refine vc_seq ?_
  refine vc_region ?_
  refine vc_buildSlice (E := eU64) [] [] rfl rfl (bs_22_0  ) rfl (fun h5 => ?_)
  refine vp ?_
  refine vc_append 0 rfl 1 rfl (hv) el_22_eU64 Tryz.underlying22 rfl rfl (by simp; omega) (by simp; omega) rfl (fun h7 => ?_)
  refine vp ?_
  refine vc_nil ?_
  refine vc_then ?_
  refine vc_ret ?_
  exact vc_end1 Tryz.results101 rfl _ (ent_pick [0, 0] rfl) ⟨h7, rfl, rfl⟩
end Go.Proofs.YtcpbibdbahfgaaaGreat
