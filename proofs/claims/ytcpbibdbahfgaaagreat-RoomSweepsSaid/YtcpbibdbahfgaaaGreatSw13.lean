/-
 Two rooms, of which one is swept now and then: what is told of them.
-/
import Derived.Test.YtcpbibdbahfgaaaGreatSw12
import Derived.Test.YtcpbibdbahfgaaaGreatSw3
import Derived.WalkKit
import Derived.ProofKit
import Derived.OpenShut
import Derived.ShutString
import Derived.ChangeOld
import Derived.Below
import Derived.Carry
import Derived.SizedLaws
import Derived.Lib.SmallJoins
import Derived.Deep.Strs
set_option linter.unusedVariables false
set_option autoImplicit false
namespace Go.Proofs.YtcpbibdbahfgaaaGreat
open Go.Eng
inductive SwL (F : Int) : Mp → Mp → Prop
 | nil : SwL F [] []
 | keep {k : ByteArray} {c : List Ver} {M N : Mp} (j : Nat) : j ≤ verOld c F → c.drop j ≠ [] → SwL F M N → SwL F ((k, c) :: M) ((k, c.drop j) :: N)
 | drop {k : ByteArray} {c : List Ver} {M N : Mp} : c.length ≤ verOld c F → SwL F M N → SwL F ((k, c) :: M) N
def Rt (M : Mp) : Prop := ∀ p ∈ M, chainRight p.2 = true
def liveL (M : Mp) (s : Int) : List (ByteArray × Ver) := M.filterMap fun p => (verAt p.2 s).map fun v => (p.1, v)
section
variable {F s : Int} {M N : Mp}
theorem SwL.refl (h : ∀ p ∈ M, p.2 ≠ []) : SwL F M M := by
 induction M with
 | nil => exact .nil
 | cons p r ih => exact .keep (k := p.1) (c := p.2) 0 (Nat.zero_le _) (h p (by simp)) (ih fun q hq => h q (by simp [hq]))
theorem SwL.ks (h : SwL F M N) : (Eng.ks N).Sublist (Eng.ks M) := by
 induction h with
 | nil => exact List.Sublist.slnil
 | keep j _ _ _ ih => exact ih.cons_cons _
 | drop _ _ ih => exact ih.cons _
theorem SwL.right (h : SwL F M N) (hr : Rt M) : Rt N := by
 induction h with
 | nil => exact hr
 | keep j _ _ _ ih =>
  intro p hp
  rcases List.mem_cons.1 hp with rfl | hp
  ·exact chainRight_drop (hr _ (List.mem_cons_self)) j
  ·exact ih (fun q hq => hr q (List.mem_cons_of_mem _ hq)) p hp
 | drop _ _ ih => exact ih fun q hq => hr q (List.mem_cons_of_mem _ hq)
theorem SwL.live (h : SwL F M N) (hr : Rt M) (hs : F ≤ s) : liveL N s = liveL M s := by
 induction h with
 | nil => rfl
 | keep j hj _ _ ih =>
  unfold liveL at *
  rw [List.filterMap_cons, List.filterMap_cons, ih fun q hq => hr q (List.mem_cons_of_mem _ hq)]
  simp only [verAt_drop (hr _ List.mem_cons_self) hj hs]
 | @drop k c M N hl _ ih =>
  unfold liveL at *
  rw [List.filterMap_cons, ih fun q hq => hr q (List.mem_cons_of_mem _ hq)]
  have h1 := verAt_drop (hr _ List.mem_cons_self) hl hs
  rw [List.drop_length] at h1
  have h2 : verAt ([] : List Ver) s = none := by unfold verAt; split <;> rfl
  rw [h2] at h1
  simp only [← h1, Option.map_none]
theorem firstLive_head (M : Mp) (s : Int) : firstLive M s = (liveL M s).head? := by
 induction M with
 | nil => rfl
 | cons p r ih =>
  unfold liveL at *
  rw [List.filterMap_cons]
  simp only [firstLive]
  cases verAt p.2 s with
  | none => simpa using ih
  | some v => rfl
theorem liveL_key {M : Mp} {s : Int} {q : ByteArray × Ver} (h : q ∈ liveL M s) : ∃ p ∈ M, p.1 = q.1 := by
 obtain ⟨p, hp, e⟩ := List.mem_filterMap.1 h
 cases hv : verAt p.2 s with
 | none => rw [hv] at e; cases e
 | some v => rw [hv] at e; simp at e; exact ⟨p, hp, by rw [← e]⟩
theorem liveFrom_find (hr : Rise (Eng.ks M)) (key : ByteArray) (ab : Bool) (s : Int) : liveFrom M key ab s = (liveL M s).find? (fun q => sLt key q.1 || (!ab && sEq q.1 key)) := by
 obtain ⟨_, hA, hB⟩ := next_split hr key ab
 unfold liveFrom
 rw [firstLive_head]
 have e : liveL M s = liveL (M.take (nextP M key ab)) s ++ liveL (M.drop (nextP M key ab)) s := by
  unfold liveL
  rw [← List.filterMap_append, List.take_append_drop]
 rw [e, List.find?_append]
 have h1 : (liveL (M.take (nextP M key ab)) s).find? (fun q => sLt key q.1 || (!ab && sEq q.1 key)) = none := List.find?_eq_none.2 fun q hq => by
  obtain ⟨p, hp, e⟩ := liveL_key hq
  have := hA p hp
  rw [e] at this
  simp only [this]; simp
 rw [h1, Option.none_or]
 cases hl : liveL (M.drop (nextP M key ab)) s with
 | nil => rfl
 | cons q r =>
  obtain ⟨p, hp, e⟩ := liveL_key (M := M.drop (nextP M key ab)) (s := s) (q := q) (by rw [hl]; exact List.mem_cons_self)
  have := hB p hp
  rw [e] at this
  rw [List.find?_cons_of_pos (by simpa using this)]; rfl
theorem SwL.from (h : SwL F M N) (hr : Rt M) (hk : Rise (Eng.ks M)) (hs : F ≤ s) (key : ByteArray) (ab : Bool) : liveFrom N key ab s = liveFrom M key ab s := by
 rw [liveFrom_find hk, liveFrom_find (rise_subl h.ks hk), h.live hr hs]
theorem ent_live (M : Mp) (s : Int) : entM M s = (liveL M s).map fun q => ⟨q.1, q.2.seq, q.2.val⟩ := by
 unfold entM liveL en1
 rw [List.map_filterMap]
 congr 1
 funext p
 cases verAt p.2 s <;> rfl
theorem SwL.ent (h : SwL F M N) (hr : Rt M) (hs : F ≤ s) : entM N s = entM M s := by rw [ent_live, ent_live, h.live hr hs]
theorem chain_cons {k key : ByteArray} {c : List Ver} (hk : Rise (Eng.ks ((k, c) :: M))) : chainM ((k, c) :: M) key = if k = key then c else chainM M key := by
 by_cases e : k = key
 ·subst e
  rw [if_pos rfl]
  exact chain_mem hk (p := (k, c)) List.mem_cons_self
 ·rw [if_neg e]
  unfold chainM
  congr 1
  refine look_ext hk hk.2 fun l => ?_
  simp [Ne.symm e]
theorem chain_out {M : Mp} {key : ByteArray} (h : ∀ p ∈ M, p.1 ≠ key) : chainM M key = [] := by
 unfold chainM
 cases hl : Eng.look M key with
 | none => rfl
 | some l => exact absurd rfl (h _ (look_mem' hl))
theorem SwL.chain (h : SwL F M N) (hr : Rt M) (hk : Rise (Eng.ks M)) (key : ByteArray) : ∃ j, j ≤ verOld (chainM M key) F ∧ chainM N key = (chainM M key).drop j := by
 induction h with
 | nil => exact ⟨0, Nat.zero_le _, rfl⟩
 | @keep k c M N j hj hne hh ih =>
  have hk2 : Rise (Eng.ks ((k, c.drop j) :: N)) := rise_subl (SwL.keep j hj hne hh).ks hk
  rw [chain_cons hk, chain_cons hk2]
  by_cases e : k = key
  ·rw [if_pos e, if_pos e]; exact ⟨j, hj, rfl⟩
  ·rw [if_neg e, if_neg e]; exact ih (fun q hq => hr q (List.mem_cons_of_mem _ hq)) hk.2
 | @drop k c M N hl hh ih =>
  rw [chain_cons hk]
  by_cases e : k = key
  ·rw [if_pos e]
   refine ⟨c.length, hl, ?_⟩
   rw [List.drop_length]
   refine chain_out fun p hp e2 => ?_
   have h1 : p.1 ∈ Eng.ks M := hh.ks.subset (List.mem_map.2 ⟨p, hp, rfl⟩)
   have h2 := hk.1 _ h1
   rw [e2, ← e, sLt_irrefl] at h2
   cases h2
  ·rw [if_neg e]; exact ih (fun q hq => hr q (List.mem_cons_of_mem _ hq)) hk.2
theorem chainRt (hr : Rt M) (key : ByteArray) : chainRight (chainM M key) = true := by
 unfold chainM
 cases hl : Eng.look M key with
 | none => rfl
 | some l => exact hr _ (look_mem' hl)
theorem SwL.sum (h : SwL F M N) (hr : Rt M) (f : ByteArray × List Ver → Int) (h0 : ∀ k, f (k, []) = 0) (hf : ∀ k c j, chainRight c = true → j ≤ verOld c F → f (k, c.drop j) = f (k, c)) : sumM f N = sumM f M := by
 induction h with
 | nil => rfl
 | @keep k c M N j hj _ _ ih =>
  simp only [sumM]
  rw [hf k c j (hr _ List.mem_cons_self) hj, ih fun q hq => hr q (List.mem_cons_of_mem _ hq)]
 | @drop k c M N hl _ ih =>
  simp only [sumM]
  have := hf k c c.length (hr _ List.mem_cons_self) hl
  rw [List.drop_length, h0] at this
  rw [← this, ih fun q hq => hr q (List.mem_cons_of_mem _ hq)]; omega
theorem SwL.liveM (h : SwL F M N) (hr : Rt M) : liveM N = Proofs.YtcpbibdbahfgaaaGreat.liveM M := h.sum hr _ (fun k => lives_nil k) fun k c j hc hj => lives_drop hc hj k
theorem SwL.countM (h : SwL F M N) (hr : Rt M) : countM N = Proofs.YtcpbibdbahfgaaaGreat.countM M := h.sum hr _ (fun k => by simp only [lives_nil]; rfl) fun k c j hc hj => by simp only [lives_drop hc hj k]
theorem SwL.vers (h : SwL F M N) : versM N ≤ versM M := by
 unfold versM
 induction h with
 | nil => exact Int.le_refl _
 | @keep k c M N j _ _ _ ih => simp only [sumM, List.length_drop]; omega
 | @drop k c M N _ _ ih => simp only [sumM]; omega
theorem SwL.confl (h : SwL F M N) (hr : Rt M) (hk : Rise (Eng.ks M)) (hs : F ≤ s) : ∀ ws : List Wr, conflW N s ws = conflW M s ws
 | [] => rfl
 | w :: r => by
  obtain ⟨j, hj, e⟩ := h.chain hr hk w.key
  simp only [conflW]
  rw [e, SwL.confl h hr hk hs r]
  congr 1
  exact conf_drop (chainRt hr _) hj hs
theorem SwL.add (h : SwL F M N) (hr : Rt M) (hk : Rise (Eng.ks M)) : ∀ ws : List Wr, addW N ws = addW M ws
 | [] => rfl
 | w :: r => by
  obtain ⟨j, hj, e⟩ := h.chain hr hk w.key
  simp only [addW, wAdd]
  rw [e, lives_drop (chainRt hr _) hj, SwL.add h hr hk r]
theorem SwL.up (h : SwL F M N) (hr : Rt M) (hs : F ≤ s) : SwL s M N := by
 induction h with
 | nil => exact .nil
 | keep j hj hne _ ih => exact .keep j (Nat.le_trans hj (verOld_mono (hr _ List.mem_cons_self) hs)) hne (ih fun q hq => hr q (List.mem_cons_of_mem _ hq))
 | drop hl _ ih => exact .drop (Nat.le_trans hl (verOld_mono (hr _ List.mem_cons_self) hs)) (ih fun q hq => hr q (List.mem_cons_of_mem _ hq))
theorem SwL.sweep (h : SwL F M N) (hr : Rt M) : SwL F M (sweepM N F) := by
 induction h with
 | nil => exact .nil
 | @keep k c M N j hj hne _ ih =>
  have hc : chainRight c = true := hr _ List.mem_cons_self
  have ih := ih fun q hq => hr q (List.mem_cons_of_mem _ hq)
  have e : verSweep (c.drop j) F = c.drop (verOld c F) := by
   unfold verSweep
   rw [if_pos (chainRight_drop hc j), verOld_drop hc hj, List.drop_drop]
   congr 1; omega
  rw [sweep_snoc']
  unfold sw1
  rw [e]
  by_cases h0 : (c.drop (verOld c F)).isEmpty = true
  ·rw [if_pos h0]
   rw [List.isEmpty_iff, List.drop_eq_nil_iff] at h0
   exact .drop h0 ih
  ·rw [if_neg h0]
   exact .keep _ (Nat.le_refl _) (by simpa using h0) ih
 | drop hl _ ih => exact .drop hl (ih fun q hq => hr q (List.mem_cons_of_mem _ hq))
theorem sweep_twice (hr : Rt N) : sweepM (sweepM N F) F = sweepM N F := by
 induction N with
 | nil => rfl
 | cons p r ih =>
  have ih := ih fun q hq => hr q (List.mem_cons_of_mem _ hq)
  have hc := hr p List.mem_cons_self
  rw [sweep_snoc' p r]
  cases hq : sw1 F p with
  | none => simpa using ih
  | some q =>
   obtain ⟨e1, e2, e3⟩ := sw1_key hq
   have e4 : verSweep q.2 F = q.2 := by
    have h1 : chainRight q.2 = true := by rw [e2]; exact verSweep_right hc F
    have h2 : verOld q.2 F = 0 := by
     rw [e2]
     unfold verSweep
     rw [if_pos hc, verOld_drop hc (Nat.le_refl _)]; omega
    unfold verSweep
    rw [if_pos h1, h2]; rfl
   have e5 : sw1 F q = some q := by unfold sw1; rw [e4, if_neg (by simpa using e3)]
   show sweepM (q :: sweepM r F) F = q :: sweepM r F
   rw [sweep_snoc', e5, ih]; rfl
end
end Go.Proofs.YtcpbibdbahfgaaaGreat
namespace Go.Proofs.YtcpbibdbahfgaaaGreat
open Go.Eng
structure StepOk (label : List Int) (ring quota most : Int) (i : Nat) (X : RmX) : Prop where
 ok : X.ok
 lab : X.label = label
 ring : X.ring = ring
 quota : X.quota = quota
 most : X.most = most
 bg : X.R.seq - X.R.begin ≤ i
 len : X.M.length ≤ 30 * i
theorem mPuts_len (n : Int) : ∀ (ws : List Wr) (M : Mp), (mPuts M n ws).length ≤ M.length + ws.length
 | [], M => by simp [mPuts]
 | w :: r, M => by
  have h1 := mPuts_len n r (mPut M w.key ⟨n, w.gone, w.val⟩)
  have h2 := mPut_len (M := M) (k := w.key) (x := ⟨n, w.gone, w.val⟩)
  simp only [mPuts, List.length_cons]
  omega
theorem commit_step (X : RmX) (ws : List Wr) (s : Int) : (commitX X ws s).2.2.label = X.label ∧ (commitX X ws s).2.2.ring = X.ring ∧ (commitX X ws s).2.2.quota = X.quota ∧ (commitX X ws s).2.2.most = X.most ∧ (commitX X ws s).2.2.R.begin = X.R.begin ∧ (commitX X ws s).2.2.R.seq ≤ X.R.seq + 1 ∧ (commitX X ws s).2.2.M.length ≤ X.M.length + ws.length := by
 have hp : (pushR X.R s).2.2.begin = X.R.begin ∧ (pushR X.R s).2.2.seq ≤ X.R.seq + 1 := by
  unfold pushR
  split
  ·exact ⟨rfl, by simp only; omega⟩
  ·split
   ·exact ⟨rfl, by simp only; omega⟩
   ·exact ⟨rfl, by simp only; omega⟩
 unfold commitX
 split
 ·split
  ·split
   ·exact ⟨rfl, rfl, rfl, rfl, hp.1, hp.2, mPuts_len _ _ _⟩
   ·exact ⟨rfl, rfl, rfl, rfl, rfl, by simp only; omega, by simp only; omega⟩
  ·exact ⟨rfl, rfl, rfl, rfl, rfl, by simp only; omega, by simp only; omega⟩
 ·exact ⟨rfl, rfl, rfl, rfl, rfl, by simp only; omega, by simp only; omega⟩
theorem sweepM_len (M : Mp) (f : Int) : (sweepM M f).length ≤ M.length := List.length_filterMap_le _ _
section
variable {label : List Int} {ring quota most : Int} {i : Nat} {X : RmX}
theorem StepOk.skip (h : StepOk label ring quota most i X) : StepOk label ring quota most (i + 1) X := ⟨h.ok, h.lab, h.ring, h.quota, h.most, by have := h.bg; omega, by have := h.len; omega⟩
theorem StepOk.commit (h : StepOk label ring quota most i X) {ws : List Wr} (hl : ws.length ≤ 30) (s : Int) (hok : (commitX X ws s).2.2.ok) : StepOk label ring quota most (i + 1) (commitX X ws s).2.2 := by
 obtain ⟨h1, h2, h3, h4, h5, h6, h7⟩ := commit_step X ws s
 exact ⟨hok, h1.trans h.lab, h2.trans h.ring, h3.trans h.quota, h4.trans h.most, by have := h.bg; omega, by have := h.len; omega⟩
theorem StepOk.sweep (h : StepOk label ring quota most i X) : StepOk label ring quota most i (swX X) := ⟨h.ok.sweep, h.lab, h.ring, h.quota, h.most, h.bg, by have h1 := h.len; have := sweepM_len X.M X.R.floor; simp only [swX]; omega⟩
theorem StepOk.act (h : StepOk label ring quota most i X) {a : ActV} (hl : a.ws.length ≤ 30) (x : Int) (hok : (actX X a x).1.ok) : StepOk label ring quota most (i + 1) (actX X a x).1 := by
 by_cases h1 : a.kind = 1
 ·have e : actX X a x = ((commitX X a.ws (stampA a x)).2.2, if (commitX X a.ws (stampA a x)).2.1 = 0 then stampA a x else x) := if_pos h1
  rw [e] at hok ⊢
  exact h.commit hl _ hok
 ·by_cases h2 : a.kind = 2
  ·have e : actX X a x = (swX X, x) := by unfold actX; rw [if_neg h1, if_pos h2]
   rw [e]
   exact h.sweep.skip
  ·have e : actX X a x = (X, x) := by unfold actX; rw [if_neg h1, if_neg h2]
   rw [e]
   exact h.skip
theorem StepOk.zero (hr : setRight label ring quota most = true) {m : Int} (h1 : 0 ≤ m) (h2 : m ≤ most) : StepOk label ring quota most 0 (X0 label ring quota most m) :=
 ⟨X0_ok hr h1 h2, rfl, rfl, rfl, rfl, by simp [X0], by simp [X0]⟩
end
end Go.Proofs.YtcpbibdbahfgaaaGreat
namespace Go.Proofs.YtcpbibdbahfgaaaGreat
open Go.Eng
section
variable {F s : Int} {M N : Mp}
theorem mPut_front {M : Mp} {key : ByteArray} {v : Ver} (h : ∀ p ∈ M, sLt key p.1 = true) : mPut M key v = (key, [v]) :: M := by
 have hl : lb (Eng.ks M) key = 0 := by
  cases M with
  | nil => rfl
  | cons p r => simp [Eng.ks, lb, sLt_asymm (h p List.mem_cons_self)]
 have hf : fnd (Eng.ks M) key = false := by
  unfold fnd
  rw [hl]
  cases M with
  | nil => rfl
  | cons p r =>
   have := sLt_ne (h p List.mem_cons_self)
   simp only [Eng.ks, List.map_cons, List.getElem?_cons_zero]
   exact sEq_false.2 this.symm
 unfold mPut ins
 rw [hf, hl]; rfl
theorem mPut_here {k : ByteArray} {c : List Ver} {r : Mp} {v : Ver} : mPut ((k, c) :: r) k v = (k, c ++ [v]) :: r := by
 have hl : lb (Eng.ks ((k, c) :: r)) k = 0 := by simp [Eng.ks, lb, sLt_irrefl]
 have hf : fnd (Eng.ks ((k, c) :: r)) k = true := by unfold fnd; rw [hl]; simp [Eng.ks, sEq_self]
 have hc : chainM ((k, c) :: r) k = c := by unfold chainM Eng.look; rw [hl, hf]; rfl
 unfold mPut put1; rw [hf, hl, hc]; rfl
theorem SwL.front (h : SwL F M N) {key : ByteArray} (hk : ∀ p ∈ M, sLt key p.1 = true) : ∀ p ∈ N, sLt key p.1 = true := fun p hp => by
 obtain ⟨q, hq, e⟩ := List.mem_map.1 (h.ks.subset (List.mem_map.2 ⟨p, hp, rfl⟩))
 rw [← e]; exact hk q hq
theorem SwL.put (h : SwL F M N) (hr : Rt M) (hk : Rise (Eng.ks M)) {key : ByteArray} {v : Ver} (hv : F < v.seq) (hc : chainRight (chainM M key ++ [v]) = true) : SwL F (mPut M key v) (mPut N key v) := by
 induction h with
 | nil => exact .keep (k := key) (c := [v]) 0 (Nat.zero_le _) (by simp) .nil
 | @keep k c M N j hj hne hh ih =>
  have hr2 : Rt M := fun q hq => hr q (List.mem_cons_of_mem _ hq)
  have hcr : chainRight c = true := hr _ List.mem_cons_self
  rw [chain_cons hk] at hc
  rcases sLt_total k key with h1 | h1 | h1
  ·rw [mPut_lt h1, mPut_lt h1]
   rw [if_neg (sLt_ne h1)] at hc
   exact .keep j hj hne (ih hr2 hk.2 hc)
  ·subst h1
   rw [if_pos rfl] at hc
   rw [mPut_here, mPut_here]
   have hjl := verOld_le c F
   have e : c.drop j ++ [v] = (c ++ [v]).drop j := by rw [List.drop_append_of_le_length (by omega)]
   rw [e]
   exact .keep j (by rw [verOld_snoc hcr hc hv]; exact hj) (by rw [← e]; simp) hh
  ·have hA : ∀ p ∈ (k, c) :: M, sLt key p.1 = true := fun p hp => by
    rcases List.mem_cons.1 hp with rfl | hp
    ·exact h1
    ·exact sLt_trans h1 (hk.1 _ (List.mem_map.2 ⟨p, hp, rfl⟩))
   rw [mPut_front hA, mPut_front ((SwL.keep j hj hne hh).front hA)]
   exact .keep (k := key) (c := [v]) 0 (Nat.zero_le _) (by simp) (.keep j hj hne hh)
 | @drop k c M N hl hh ih =>
  have hr2 : Rt M := fun q hq => hr q (List.mem_cons_of_mem _ hq)
  have hcr : chainRight c = true := hr _ List.mem_cons_self
  rw [chain_cons hk] at hc
  rcases sLt_total k key with h1 | h1 | h1
  ·rw [mPut_lt h1]
   rw [if_neg (sLt_ne h1)] at hc
   exact .drop hl (ih hr2 hk.2 hc)
  ·subst h1
   rw [if_pos rfl] at hc
   have hB : ∀ p ∈ N, sLt k p.1 = true := hh.front fun p hp => hk.1 _ (List.mem_map.2 ⟨p, hp, rfl⟩)
   rw [mPut_here, mPut_front hB]
   have := SwL.keep (F := F) (k := k) (c := c ++ [v]) c.length (by rw [verOld_snoc hcr hc hv]; exact hl) (by simp) hh
   simpa using this
  ·have hA : ∀ p ∈ (k, c) :: M, sLt key p.1 = true := fun p hp => by
    rcases List.mem_cons.1 hp with rfl | hp
    ·exact h1
    ·exact sLt_trans h1 (hk.1 _ (List.mem_map.2 ⟨p, hp, rfl⟩))
   rw [mPut_front hA, mPut_front ((SwL.drop hl hh).front hA)]
   exact .keep (k := key) (c := [v]) 0 (Nat.zero_le _) (by simp) (.drop hl hh)
end
def xb (X : RmX) (N : Mp) : RmX := ⟨X.label, X.ring, X.quota, X.most, X.R, N⟩
theorem RmX.ok.rt {X : RmX} (ok : X.ok) : Rt X.M := fun p hp => (ok.ps p hp).c
structure Sw (X : RmX) (N : Mp) : Prop where
 ok : X.ok
 ok2 : (xb X N).ok
 sw : SwL X.R.floor X.M N
section
variable {X : RmX} {N : Mp}
theorem Sw.space (h : Sw X N) (ws : List Wr) : spaceE (xb X N) ws = spaceE X ws := by
 have e : spaceE (xb X N) ws = if X.most ≤ X.R.seq then 17 else if X.quota < liveM N + addW N ws then 15 else 0 := rfl
 rw [e, h.sw.liveM h.ok.rt, h.sw.add h.ok.rt h.ok.rise]; rfl
theorem Sw.check (h : Sw X N) (ws : List Wr) {s : Int} (hs : X.R.floor ≤ s) : checkE (xb X N) ws s = checkE X ws s := by
 have e : checkE (xb X N) ws s = if mayW ws then (if decide (X.R.floor ≤ s) && decide (s ≤ X.R.seq) then (if conflW N s ws then 13 else spaceE (xb X N) ws) else 14) else 1 := rfl
 rw [e, h.space, h.sw.confl h.ok.rt h.ok.rise hs]; rfl
theorem Sw.get (h : Sw X N) (key : ByteArray) {s : Int} (hs : X.R.floor ≤ s) : verAt (chainM N key) s = verAt (chainM X.M key) s := by
 obtain ⟨j, hj, e⟩ := h.sw.chain h.ok.rt h.ok.rise key
 rw [e, verAt_drop (chainRt h.ok.rt key) hj hs]
theorem Sw.swept (h : Sw X N) : Sw X (sweepM N X.R.floor) := ⟨h.ok, h.ok2.sweep, h.sw.sweep h.ok.rt⟩
theorem floor_mono {R R' : RR} (h1 : R'.size = R.size) (h2 : R'.begin = R.begin) (h3 : R.seq ≤ R'.seq) : R.floor ≤ R'.floor := by
 unfold RR.floor; omega
theorem puts_sw {X : RmX} {R' : RR} {ws : List Wr} (H : PutsH X R' ws) (h : Sw X N) (hf : X.R.floor < R'.seq) : ∀ i, i ≤ ws.length → SwL X.R.floor (mPuts X.M R'.seq (ws.take i)) (mPuts N R'.seq (ws.take i))
 | 0, _ => by simpa [mPuts] using h.sw
 | i + 1, hi => by
  have hp := (live_puts H i (by omega)).1
  have hi2 : i < ws.length := by omega
  obtain ⟨e1, e2⟩ := H.right hi2 hp
  rw [mPuts_succ hi2, mPuts_succ hi2]
  exact (puts_sw H h hf i (by omega)).put hp.ok.rt hp.ok.rise hf (by rw [e1]; exact e2)
end
theorem commit_puts {X : RmX} (ok : X.ok) {ws : List Wr} {s : Int} (hm : mayW ws = true) (hsp : spaceE X ws = 0) (hpe : (pushR X.R s).2.1 = 0) (hbg : X.R.seq - X.R.begin < 900000) (hle : X.M.length + ws.length ≤ 100000) : PutsH X (pushR X.R s).2.2 ws ∧ (pushR X.R s).1 = (pushR X.R s).2.2.seq := by
 have hps : (pushR X.R s).2.2.seq = X.R.seq + 1 ∧ (pushR X.R s).2.2.begin = X.R.begin ∧ (pushR X.R s).2.2.size = X.R.size ∧ (pushR X.R s).1 = (pushR X.R s).2.2.seq := by
  unfold pushR at hpe ⊢
  split
  ·rename_i h1; rw [if_pos h1] at hpe; cases hpe
  ·split
   ·rename_i h1 h2; rw [if_neg h1, if_pos h2] at hpe; cases hpe
   ·exact ⟨rfl, rfl, rfl, rfl⟩
 have hsm : X.R.seq < X.most := by
  unfold spaceE at hsp
  split at hsp
  ·cases hsp
  ·omega
 have hmf : mayFrom none ws = true := by simp only [mayW, Bool.and_eq_true] at hm; exact hm.1
 exact ⟨⟨ok, push_ok ok.rg s, hps.1, hps.2.1, hps.2.2.1, by omega, by omega, hmf, hle⟩, hps.2.2.2⟩
theorem commit_ok {X : RmX} (ok : X.ok) (ws : List Wr) (s : Int) (hbg : X.R.seq - X.R.begin < 900000) (hle : X.M.length + ws.length ≤ 100000) : (commitX X ws s).2.2.ok := by
 unfold commitX
 split
 ·rename_i hm
  split
  ·rename_i hsp
   split
   ·rename_i hpe
    obtain ⟨H, e⟩ := commit_puts ok hm hsp hpe hbg hle
    have := (live_puts H ws.length (Nat.le_refl _)).1.ok
    rw [List.take_length] at this
    rw [e]; exact this
   ·exact ok
  ·exact ok
 ·exact ok
theorem Sw.commit {X : RmX} {N : Mp} (h : Sw X N) (ws : List Wr) (s : Int) (hbg : X.R.seq - X.R.begin < 900000) (hle : X.M.length + ws.length ≤ 100000) :
  (commitX (xb X N) ws s).1 = (commitX X ws s).1 ∧ (commitX (xb X N) ws s).2.1 = (commitX X ws s).2.1 ∧ ∃ N', (commitX (xb X N) ws s).2.2 = xb (commitX X ws s).2.2 N' ∧ Sw (commitX X ws s).2.2 N' := by
 have hnl : N.length ≤ X.M.length := by
  have := h.sw.ks.length_le
  simpa [Eng.ks] using this
 have hok := commit_ok h.ok ws s hbg hle
 have hok2 := commit_ok h.ok2 ws s hbg (by simp only [xb]; omega)
 have hsp2 := h.space ws
 by_cases hm : mayW ws = true
 ·by_cases hsp : spaceE X ws = 0
  ·by_cases hpe : (pushR X.R s).2.1 = 0
   ·have e1 : commitX X ws s = ((pushR X.R s).1, 0, ⟨X.label, X.ring, X.quota, X.most, (pushR X.R s).2.2, mPuts X.M (pushR X.R s).1 ws⟩) := by unfold commitX; rw [if_pos hm, if_pos hsp, if_pos hpe]
    have e2 : commitX (xb X N) ws s = ((pushR X.R s).1, 0, xb ⟨X.label, X.ring, X.quota, X.most, (pushR X.R s).2.2, mPuts X.M (pushR X.R s).1 ws⟩ (mPuts N (pushR X.R s).1 ws)) := by unfold commitX; rw [if_pos hm, if_pos (hsp2.trans hsp)]; exact if_pos hpe
    rw [e1] at hok ⊢
    rw [e2] at hok2 ⊢
    obtain ⟨H, e⟩ := commit_puts h.ok hm hsp hpe hbg hle
    have hfl : X.R.floor < (pushR X.R s).2.2.seq := by
     have h1 := h.ok.rg
     have h2 := h1.s1
     have h3 := h1.b1
     rw [H.seq]
     unfold RR.floor
     omega
    have hsw := puts_sw H h hfl ws.length (Nat.le_refl _)
    rw [List.take_length] at hsw
    refine ⟨rfl, rfl, _, rfl, hok, hok2, ?_⟩
    simp only
    rw [e]
    rw [e] at hok
    exact hsw.up hok.rt (floor_mono H.size H.bgn (by rw [H.seq]; omega))
   ·have e1 : commitX X ws s = (0, (pushR X.R s).2.1, X) := by unfold commitX; rw [if_pos hm, if_pos hsp, if_neg hpe]
    have e2 : commitX (xb X N) ws s = (0, (pushR X.R s).2.1, xb X N) := by unfold commitX; rw [if_pos hm, if_pos (hsp2.trans hsp)]; exact if_neg hpe
    rw [e1, e2]; exact ⟨rfl, rfl, N, rfl, h⟩
  ·have e1 : commitX X ws s = (0, spaceE X ws, X) := by unfold commitX; rw [if_pos hm, if_neg hsp]
   have e2 : commitX (xb X N) ws s = (0, spaceE X ws, xb X N) := by unfold commitX; rw [if_pos hm, if_neg (by rw [hsp2]; exact hsp), hsp2]
   rw [e1, e2]; exact ⟨rfl, rfl, N, rfl, h⟩
 ·have e1 : commitX X ws s = (0, 1, X) := by unfold commitX; rw [if_neg hm]
  have e2 : commitX (xb X N) ws s = (0, 1, xb X N) := by unfold commitX; rw [if_neg hm]
  rw [e1, e2]; exact ⟨rfl, rfl, N, rfl, h⟩
theorem Sw.zero {X : RmX} (ok : X.ok) : Sw X X.M := ⟨ok, ok, SwL.refl fun p hp => (ok.ps p hp).ne⟩
end Go.Proofs.YtcpbibdbahfgaaaGreat
set_option linter.unusedSimpArgs false
set_option maxHeartbeats 4000000
namespace Go.Proofs.YtcpbibdbahfgaaaGreat
open Go.Eng
namespace FLaw11d
theorem ca_10 : Callable Tryz.prog 10 := ⟨_, _, Tryz.func10, rfl, rfl⟩
theorem fl_24_0 : Fld Tryz.prog 24 0 0 := ⟨_, _, 0, Tryz.underlying24, rfl, rfl, by kernel_rfl⟩
theorem one_22 : TyOne Tryz.prog 22 := ⟨⟨_, Tryz.underlying22, rfl⟩, by kernel_rfl⟩
theorem ag_24 : TyAgg Tryz.prog 24 4 := ⟨⟨_, Tryz.underlying24, rfl⟩, by kernel_rfl⟩
theorem ca_11 : Callable Tryz.prog 11 := ⟨_, _, Tryz.func11, rfl, rfl⟩
theorem ca_12 : Callable Tryz.prog 12 := ⟨_, _, Tryz.func12, rfl, rfl⟩
theorem ze_34 : (Tryz.prog.info? 34).map (·.zero) = some (some (.int .u64 0)) := by kernel_rfl
theorem sz_34 : (Tryz.prog.info? 34).map (·.size) = some 1 := by kernel_rfl
theorem sl_25 : TySl Tryz.prog 25 37 5 := ⟨Tryz.underlying25, by kernel_rfl⟩
theorem ag_37 : TyAgg Tryz.prog 37 5 := ⟨⟨_, Tryz.underlying37, rfl⟩, by kernel_rfl⟩
theorem ze_37 : (Tryz.prog.info? 37).map (·.zero) = some (some (.agg #[.int .i64 0, .slice none 0 0, .int .u8 0, .int .i64 0, .string ⟨#[]⟩])) := by kernel_rfl
theorem sz_37 : (Tryz.prog.info? 37).map (·.size) = some 5 := by kernel_rfl
theorem fl_37_1 : Fld Tryz.prog 37 1 1 := ⟨_, _, 0, Tryz.underlying37, rfl, rfl, by kernel_rfl⟩
theorem one_35 : TyOne Tryz.prog 35 := ⟨⟨_, Tryz.underlying35, rfl⟩, by kernel_rfl⟩
theorem ca_13 : Callable Tryz.prog 13 := ⟨_, _, Tryz.func13, rfl, rfl⟩
theorem fl_37_4 : Fld Tryz.prog 37 4 4 := ⟨_, _, 0, Tryz.underlying37, rfl, rfl, by kernel_rfl⟩
theorem one_9 : TyOne Tryz.prog 9 := ⟨⟨_, Tryz.underlying9, rfl⟩, by kernel_rfl⟩
theorem fl_37_0 : Fld Tryz.prog 37 0 0 := ⟨_, _, 0, Tryz.underlying37, rfl, rfl, by kernel_rfl⟩
theorem one_3 : TyOne Tryz.prog 3 := ⟨⟨_, Tryz.underlying3, rfl⟩, by kernel_rfl⟩
theorem ca_14 : Callable Tryz.prog 14 := ⟨_, _, Tryz.func14, rfl, rfl⟩
theorem fl_37_2 : Fld Tryz.prog 37 2 2 := ⟨_, _, 0, Tryz.underlying37, rfl, rfl, by kernel_rfl⟩
theorem one_5 : TyOne Tryz.prog 5 := ⟨⟨_, Tryz.underlying5, rfl⟩, by kernel_rfl⟩
theorem ca_15 : Callable Tryz.prog 15 := ⟨_, _, Tryz.func15, rfl, rfl⟩
theorem ca_16 : Callable Tryz.prog 16 := ⟨_, _, Tryz.func16, rfl, rfl⟩
theorem one_34 : TyOne Tryz.prog 34 := ⟨⟨_, Tryz.underlying34, rfl⟩, by kernel_rfl⟩
theorem sl_26 : TySl Tryz.prog 26 4 1 := ⟨Tryz.underlying26, by kernel_rfl⟩
theorem one_4 : TyOne Tryz.prog 4 := ⟨⟨_, Tryz.underlying4, rfl⟩, by kernel_rfl⟩
theorem ca_17 : Callable Tryz.prog 17 := ⟨_, _, Tryz.func17, rfl, rfl⟩
theorem ca_18 : Callable Tryz.prog 18 := ⟨_, _, Tryz.func18, rfl, rfl⟩
theorem ca_19 : Callable Tryz.prog 19 := ⟨_, _, Tryz.func19, rfl, rfl⟩
theorem ze_45 : (Tryz.prog.info? 45).map (·.zero) = some (some (.agg #[.bool false, .string ⟨#[]⟩, .int .u64 0])) := by kernel_rfl
theorem sz_45 : (Tryz.prog.info? 45).map (·.size) = some 3 := by kernel_rfl
theorem ca_20 : Callable Tryz.prog 20 := ⟨_, _, Tryz.func20, rfl, rfl⟩
theorem ag_45 : TyAgg Tryz.prog 45 3 := ⟨⟨_, Tryz.underlying45, rfl⟩, by kernel_rfl⟩
theorem eg_45 : Tryz.prog.eqGuardType Tryz.prog.depth 45 = false := by kernel_rfl
theorem ca_21 : Callable Tryz.prog 21 := ⟨_, _, Tryz.func21, rfl, rfl⟩
theorem ca_22 : Callable Tryz.prog 22 := ⟨_, _, Tryz.func22, rfl, rfl⟩
theorem ca_23 : Callable Tryz.prog 23 := ⟨_, _, Tryz.func23, rfl, rfl⟩
theorem ca_24 : Callable Tryz.prog 24 := ⟨_, _, Tryz.func24, rfl, rfl⟩
theorem ca_26 : Callable Tryz.prog 26 := ⟨_, _, Tryz.func26, rfl, rfl⟩
theorem ca_25 : Callable Tryz.prog 25 := ⟨_, _, Tryz.func25, rfl, rfl⟩
end FLaw11d
open FLaw11d
def eBool : Enc Bool := ⟨4, 1, fun b => [.bool b], fun _ => rfl, fun _ c h => by simp at h; subst h; rfl, by decide⟩
theorem does_spec2 {b bm bs : Nat} {X X2 : RmX} {x x2 : Int} (ok : X.ok) {W : HP} {a : ActV} (hA : ActOk W a) (hb : a.ws.length ≤ 1000000) (hbg : X.R.seq - X.R.begin < 900000) (hle : X.M.length + a.ws.length ≤ 100000 ∨ mayW a.ws = false) (hax : actX X a x = (X2, x2)) : Does Tryz.prog 14 [.pointer (some ⟨b, 0, none⟩), .pointer (some ⟨bm, 0, none⟩), .agg #[.int .i64 a.kind, a.hL.v, .int .u8 a.by', .int .i64 a.seq, .string a.key], .pointer (some ⟨bs, 0, none⟩)] [RoomC b X, RefC bm X, Pts bs [.int .u64 x] 34, W] (fun v l => v = .bool true ∧ X2.ok ∧ l = [RoomC b X2, RefC bm X2, Pts bs [.int .u64 x2] 34, W]) := by
 have := does_spec (b := b) (bm := bm) (bs := bs) ok hA hb hbg hle x
 rw [hax] at this
 exact this
theorem commit_n (X : RmX) (ws : List Wr) (s : Int) : (commitX X ws s).1 = 0 ∨ (commitX X ws s).1 = (commitX X ws s).2.2.R.seq := by
 unfold commitX
 split
 ·split
  ·split
   ·rename_i hpe
    right
    unfold pushR at hpe ⊢
    split
    ·rename_i h1; rw [if_pos h1] at hpe; cases hpe
    ·split
     ·rename_i h1 h2; rw [if_neg h1, if_pos h2] at hpe; cases hpe
     ·rfl
   ·exact .inl rfl
  ·exact .inl rfl
 ·exact .inl rfl
theorem sweeps_bad {W : HP} {hl : SH} {label : List Int} (hv : Vis W (Rd eU64 hl label)) (hp : ∀ t ∈ label, 0 ≤ t) (ring quota most : Int) {ha : SH} {acts : List ActV} (hva : Vis W (Rd eAct ha acts)) (hA : ∀ a ∈ acts, ActOk W a) {hs : SH} {bs : List Bool} (hvs : Vis W (Rd eBool hs bs)) (hr : setRight label ring quota most = false) : Does Tryz.prog 3 [.agg #[hl.v, .int .i64 ring, .int .i64 quota, .int .i64 most], ha.v, hs.v] [W] (fun v l => v = .bool true ∧ l = [W]) := by
 refine spec_of Tryz.func3 rfl Tryz.ntmps3 Tryz.results3 _ (by simp) fun ι F => ?_
 refine vc_see 0 rfl (hv.imp fun w r => r.len) (fun hll => ?_)
 refine vc_see 0 rfl (hva.imp fun w r => r.len) (fun hla => ?_)
 refine vc_see 0 rfl (hvs.imp fun w r => r.len) (fun hls => ?_)
 refine vc_seq ?_
 refine vc_region ?_
 refine vc_box [_, _, _, _] rfl rfl rfl (fun b3 => ?_)
 refine vp ?_
 refine vc_nil ?_
 refine vc_then ?_
 refine vc_seq ?_
 refine vc_seq ?_
 refine vc_region ?_
 refine vc_callv ca_10 (us := []) (vs := []) rfl [] rfl [] rfl (awake11) rfl ?_
 rintro _ _ ⟨rfl, rfl⟩
 refine vp ?_
 refine vc_nil ?_
 refine vc_then ?_
 refine vc_condF rfl ?_
 refine vc_skip ?_
 refine vc_then ?_
 refine vc_seq ?_
 refine vc_seq ?_
 refine vc_region ?_
 refine vc_y (y_fieldP fl_24_0 0 rfl rfl) rfl ?_
 refine vc_y (y_load1 0 rfl one_22 rfl (Pts.vis rfl)) rfl ?_
 refine vc_y (y_len Tryz.underlying22 rfl (by first | assumption | rfl)) rfl ?_
 refine vp ?_
 refine vc_nil ?_
 refine vc_then ?_
 first | refine vc_condP rfl (fun c35 => ?_) (fun c35 => ?_) | refine vc_condN rfl (fun c35 => ?_) (fun c35 => ?_) | refine vc_cond rfl (fun c35 => ?_) (fun c35 => ?_)
 ·skip
  refine vc_seq ?_
  refine vc_region ?_
  refine vp ?_
  refine vc_nil ?_
  refine vc_then ?_
  refine vc_ret ?_
  refine vc_thenRet ?_
  exact vc_end1 Tryz.results3 rfl _ (ent_pick [1] rfl) ⟨by simp, rfl⟩
 ·skip
  refine vc_skip ?_
  refine vc_then ?_
  refine vc_seq ?_
  refine vc_region ?_
  refine vc_y (y_loadA 0 rfl (cs := [_, _, _, _]) ag_24 rfl (Pts.visA rfl)) rfl ?_
  refine vc_callv ca_11 (us := []) (vs := []) rfl [_] rfl [1] rfl (new_bad hv ring quota most hr) rfl ?_
  rintro _ _ ⟨rfl, rfl⟩
  iterate 5 refine vp ?_
  refine vc_nil ?_
  refine vc_then ?_
  refine vc_seq ?_
  refine vc_region ?_
  refine vc_y (y_loadA 1 rfl (cs := [_, _, _, _]) ag_24 rfl (Pts.visA rfl)) rfl ?_
  refine vc_callv ca_11 (us := []) (vs := []) rfl [_] rfl [0] rfl (new_bad hv ring quota most hr) rfl ?_
  rintro _ _ ⟨rfl, rfl⟩
  iterate 5 refine vp ?_
  refine vc_nil ?_
  refine vc_then ?_
  refine vc_seq ?_
  refine vc_region ?_
  refine vc_y (y_loadA 1 rfl (cs := [_, _, _, _]) ag_24 rfl (Pts.visA rfl)) rfl ?_
  refine vc_callv ca_12 (us := []) (vs := []) rfl [_, _] rfl [] rfl (refNew_spec ring quota most 0) rfl ?_
  rintro _ _ ⟨bm, bG, rfl, rfl⟩
  refine vp ?_
  refine vc_nil ?_
  refine vc_then ?_
  refine vc_seq ?_
  refine vc_seq ?_
  refine vc_region ?_
  iterate 3 refine vp ?_
  first | refine vc_splitP 50 rfl (fun c50 => ?_) (fun c50 => ?_) | refine vc_splitN 50 rfl (fun c50 => ?_) (fun c50 => ?_) | refine vc_split 50 rfl (fun c50 => ?_) (fun c50 => ?_)
  ·skip
   refine vc_guardF 50 rfl rfl rfl rfl ?_
   refine vc_guardF 50 rfl rfl rfl rfl ?_
   refine vp ?_
   refine vc_nil ?_
   refine vc_then ?_
   refine vc_condT rfl ?_
   refine vc_seq ?_
   refine vc_region ?_
   iterate 4 refine vp ?_
   refine vc_nil ?_
   refine vc_then ?_
   refine vc_ret ?_
   refine vc_thenRet ?_
   exact vc_end1 Tryz.results3 rfl _ (ent_pick [5] rfl) ⟨by simp, rfl⟩
  ·skip
   simp at c50
theorem sweeps_ok {W : HP} {hl : SH} {label : List Int} (hv : Vis W (Rd eU64 hl label)) (hp : ∀ t ∈ label, 0 ≤ t) (ring quota most : Int) {ha : SH} {acts : List ActV} (hva : Vis W (Rd eAct ha acts)) (hA : ∀ a ∈ acts, ActOk W a) {hs : SH} {bs : List Bool} (hvs : Vis W (Rd eBool hs bs)) (hr : setRight label ring quota most = true) : Does Tryz.prog 3 [.agg #[hl.v, .int .i64 ring, .int .i64 quota, .int .i64 most], ha.v, hs.v] [W] (fun v l => v = .bool true ∧ l = [W]) := by
 refine spec_of Tryz.func3 rfl Tryz.ntmps3 Tryz.results3 _ (by simp) fun ι F => ?_
 refine vc_see 0 rfl (hv.imp fun w r => r.len) (fun hll => ?_)
 refine vc_see 0 rfl (hva.imp fun w r => r.len) (fun hla => ?_)
 refine vc_see 0 rfl (hvs.imp fun w r => r.len) (fun hls => ?_)
 have hmo : 0 ≤ most := by have h0 := hr; simp only [setRight, Bool.and_eq_true, decide_eq_true_eq] at h0; omega
 refine vc_seq ?_
 refine vc_region ?_
 refine vc_box [_, _, _, _] rfl rfl rfl (fun b3 => ?_)
 refine vp ?_
 refine vc_nil ?_
 refine vc_then ?_
 refine vc_seq ?_
 refine vc_seq ?_
 refine vc_region ?_
 refine vc_callv ca_10 (us := []) (vs := []) rfl [] rfl [] rfl (awake11) rfl ?_
 rintro _ _ ⟨rfl, rfl⟩
 refine vp ?_
 refine vc_nil ?_
 refine vc_then ?_
 refine vc_condF rfl ?_
 refine vc_skip ?_
 refine vc_then ?_
 refine vc_seq ?_
 refine vc_seq ?_
 refine vc_region ?_
 refine vc_y (y_fieldP fl_24_0 0 rfl rfl) rfl ?_
 refine vc_y (y_load1 0 rfl one_22 rfl (Pts.vis rfl)) rfl ?_
 refine vc_y (y_len Tryz.underlying22 rfl (by first | assumption | rfl)) rfl ?_
 refine vp ?_
 refine vc_nil ?_
 refine vc_then ?_
 first | refine vc_condP rfl (fun c35 => ?_) (fun c35 => ?_) | refine vc_condN rfl (fun c35 => ?_) (fun c35 => ?_) | refine vc_cond rfl (fun c35 => ?_) (fun c35 => ?_)
 ·skip
  refine vc_seq ?_
  refine vc_region ?_
  refine vp ?_
  refine vc_nil ?_
  refine vc_then ?_
  refine vc_ret ?_
  refine vc_thenRet ?_
  exact vc_end1 Tryz.results3 rfl _ (ent_pick [1] rfl) ⟨by first | rfl | (simp; omega), rfl⟩
 ·skip
  refine vc_skip ?_
  refine vc_then ?_
  refine vc_seq ?_
  refine vc_region ?_
  refine vc_y (y_loadA 0 rfl (cs := [_, _, _, _]) ag_24 rfl (Pts.visA rfl)) rfl ?_
  refine vc_callv ca_11 (us := []) (vs := []) rfl [_] rfl [1] rfl (new_ok hv ring quota most hr) rfl ?_
  rintro _ _ ⟨b, rfl, rfl⟩
  iterate 5 refine vp ?_
  refine vc_nil ?_
  refine vc_then ?_
  refine vc_seq ?_
  refine vc_region ?_
  refine vc_y (y_loadA 2 rfl (cs := [_, _, _, _]) ag_24 rfl (Pts.visA rfl)) rfl ?_
  refine vc_callv ca_11 (us := []) (vs := []) rfl [_] rfl [1] rfl (new_ok hv ring quota most hr) rfl ?_
  rintro _ _ ⟨bb, rfl, rfl⟩
  iterate 5 refine vp ?_
  refine vc_nil ?_
  refine vc_then ?_
  refine vc_seq ?_
  refine vc_region ?_
  refine vc_y (y_loadA 3 rfl (cs := [_, _, _, _]) ag_24 rfl (Pts.visA rfl)) rfl ?_
  refine vc_callv ca_12 (us := []) (vs := []) rfl [_, _] rfl [] rfl (ref_new hr (Int.le_refl 0) hmo) rfl ?_
  rintro _ _ ⟨bm, rfl, rfl⟩
  refine vp ?_
  refine vc_nil ?_
  refine vc_then ?_
  refine vc_seq ?_
  refine vc_seq ?_
  refine vc_region ?_
  iterate 3 refine vp ?_
  first | refine vc_splitP 50 rfl (fun c50 => ?_) (fun c50 => ?_) | refine vc_splitN 50 rfl (fun c50 => ?_) (fun c50 => ?_) | refine vc_split 50 rfl (fun c50 => ?_) (fun c50 => ?_)
  ·skip
   simp at c50
  ·skip
   refine vc_guardT 50 rfl rfl ?_
   refine vp ?_
   refine vc_guardT 50 rfl rfl ?_
   refine vp ?_
   refine vp ?_
   refine vc_nil ?_
   refine vc_then ?_
   first | refine vc_condP rfl (fun c53 => ?_) (fun c53 => ?_) | refine vc_condN rfl (fun c53 => ?_) (fun c53 => ?_) | refine vc_cond rfl (fun c53 => ?_) (fun c53 => ?_)
   ·skip
    simp at c53
   ·skip
    refine vc_skip ?_
    refine vc_then ?_
    refine vc_seq ?_
    refine vc_region ?_
    refine vc_alloc [.int .u64 0] ze_34 rfl rfl (fun b12 => ?_)
    refine vc_storeP 0 rfl [_] [_] rfl rfl rfl sz_34 rfl rfl rfl ?_
    refine vp ?_
    refine vc_nil ?_
    refine vc_then ?_
    refine vc_seq ?_
    refine vc_region ?_
    refine vp ?_
    refine vc_nil ?_
    refine vc_then ?_
    refine vc_seq ?_
    refine vc_seq ?_
    refine vc_region ?_
    refine vp ?_
    refine vc_nil ?_
    refine vc_then ?_
    refine vc_block ?_
    refine vc_loop (α := Nat × RmX × Mp × Int × Int) (fun xq_ => match xq_ with | (i, X, N, x, z) => [(1, ha.v), (2, hs.v), (7, .pointer (some ⟨b, 0, none⟩)), (9, .pointer (some ⟨bb, 0, none⟩)), (11, .pointer (some ⟨bm, 0, none⟩)), (12, .pointer (some ⟨b12, 0, none⟩)), (13, .int .u64 x), (14, .int .u64 z), (15, .int .i64 (i : Int))]) (fun xq_ => match xq_ with | (i, X, N, x, z) => [RoomC b X, RoomC bb (xb X N), RefC bm X, Pts b12 [.int .u64 x] 34, W]) (fun xq_ => match xq_ with | (i, X, N, x, z) => 120 - i) (fun xq_ => match xq_ with | (i, X, N, x, z) => i ≤ 120 ∧ StepOk label ring quota most i X ∧ Sw X N ∧ (0 ≤ z ∧ z ≤ (i : Int))) (0, X0 label ring quota most 0, [], 0, 0) ⟨Nat.zero_le _, StepOk.zero hr (Int.le_refl 0) hmo, Sw.zero (X0_ok hr (Int.le_refl 0) hmo), by omega, by omega⟩ ⟨rfl, rfl, rfl, rfl, rfl, rfl, rfl, rfl, rfl, trivial⟩ (ent_pick [4, 2, 1, 0, 0] rfl) ?_
    rintro ⟨i, X, N, x, z⟩ ⟨hi, hS, hW, hz⟩
    show VC _ _ _ _ [(1, ha.v), (2, hs.v), (7, .pointer (some ⟨b, 0, none⟩)), (9, .pointer (some ⟨bb, 0, none⟩)), (11, .pointer (some ⟨bm, 0, none⟩)), (12, .pointer (some ⟨b12, 0, none⟩)), (13, .int .u64 x), (14, .int .u64 z), (15, .int .i64 (i : Int))] ([RoomC b X, RoomC bb (xb X N), RefC bm X, Pts b12 [.int .u64 x] 34, W])
    refine vc_seq ?_
    refine vc_seq ?_
    refine vc_region ?_
    refine vp ?_
    refine vp ?_
    refine vc_y (y_len Tryz.underlying25 rfl (by first | assumption | rfl)) rfl ?_
    refine vp ?_
    refine vp ?_
    first | refine vc_splitP 61 rfl (fun c61 => ?_) (fun c61 => ?_) | refine vc_splitN 61 rfl (fun c61 => ?_) (fun c61 => ?_) | refine vc_split 61 rfl (fun c61 => ?_) (fun c61 => ?_)
    ·skip
     have hi2 : i < acts.length := by omega
     refine vc_guardT 61 rfl rfl ?_
     refine vp ?_
     refine vc_guardT 61 rfl rfl ?_
     refine vp ?_
     refine vp ?_
     refine vc_nil ?_
     refine vc_then ?_
     first | refine vc_condP rfl (fun c64 => ?_) (fun c64 => ?_) | refine vc_condN rfl (fun c64 => ?_) (fun c64 => ?_) | refine vc_cond rfl (fun c64 => ?_) (fun c64 => ?_)
     ·skip
      have hi3 : i < 120 := by omega
      have ok := hS.ok
      have hsb := hS.bg
      have hsl := hS.len
      refine vc_skip ?_
      refine vc_then ?_
      refine vc_seq ?_
      refine vc_block ?_
      refine vc_seq ?_
      refine vc_region ?_
      refine vp ?_
      refine vp ?_
      refine vc_y (y_elem 4 rfl (hva) i rfl hi2 sl_25 rfl rfl) rfl ?_
      refine vc_y (y_loadA 4 rfl (cs := [_, _, _, _, _]) ag_37 rfl (Rd.visA (hva) (List.getElem?_eq_getElem (by first | assumption | omega)) rfl)) rfl ?_
      refine vc_alloc [.int .i64 0, .slice none 0 0, .int .u8 0, .int .i64 0, .string ⟨#[]⟩] ze_37 rfl rfl (fun b16 => ?_)
      refine vc_storeP 0 rfl [_, _, _, _, _] [_, _, _, _, _] rfl rfl rfl sz_37 rfl rfl rfl ?_
      refine vc_nil ?_
      refine vc_then ?_
      refine vc_seq ?_
      refine vc_seq ?_
      refine vc_region ?_
      refine vc_y (y_fieldP fl_37_1 1 rfl rfl) rfl ?_
      refine vc_y (y_load1 0 rfl one_35 rfl (Pts.vis rfl)) rfl ?_
      refine vc_callv ca_13 (us := []) (vs := []) rfl [_] rfl [5] rfl (far_spec (hA _ (List.getElem_mem hi2)).vis) rfl ?_
      rintro _ _ ⟨t, rfl, hfar, rfl⟩
      refine vp ?_
      first | refine vc_splitP 74 rfl (fun c74 => ?_) (fun c74 => ?_) | refine vc_splitN 74 rfl (fun c74 => ?_) (fun c74 => ?_) | refine vc_split 74 rfl (fun c74 => ?_) (fun c74 => ?_)
      ·skip
       refine vc_guardF 74 rfl rfl rfl rfl ?_
       refine vc_guardF 74 rfl rfl rfl rfl ?_
       refine vc_guardF 74 rfl rfl rfl rfl ?_
       refine vc_guardF 74 rfl rfl rfl rfl ?_
       refine vp ?_
       refine vp ?_
       refine vc_guardF 80 rfl rfl rfl rfl ?_
       refine vc_guardF 80 rfl rfl rfl rfl ?_
       refine vc_guardF 80 rfl rfl rfl rfl ?_
       refine vp ?_
       refine vc_nil ?_
       refine vc_then ?_
       refine vc_condT rfl ?_
       refine vc_exit ?_
       refine vc_thenExit ?_
       refine vc_inExit ?_
       refine vc_then ?_
       refine vc_region ?_
       refine vp ?_
       first | refine vc_y (y_arith _ rfl (wrapNadd (by omega))) rfl ?_ | refine vc_y (y_arith _ rfl (wrap64 (by omega) (by omega))) rfl ?_ | refine vp ?_
       refine vp ?_
       refine vc_nil ?_
       refine vc_then ?_
       first | exact vc_again (x := (i, X, N, x, z)) (i + 1, X3, N4, x3, z + 1) ⟨by omega, hS3, hW4, by omega, by omega⟩ (by show 120 - (i + 1) < 120 - i; omega) ⟨rfl, rfl, rfl, rfl, rfl, rfl, rfl, rfl, rfl, trivial⟩ (ent_pick [2, 2, 2, 2, 0] rfl) | exact vc_again (x := (i, X, N, x, z)) (i + 1, X, N, x, z) ⟨by omega, hS.skip, hW, by omega, by omega⟩ (by show 120 - (i + 1) < 120 - i; omega) ⟨rfl, rfl, rfl, rfl, rfl, rfl, rfl, rfl, rfl, trivial⟩ (ent_pick [2, 2, 2, 2, 0] rfl)
      ·skip
       have hwl : acts[i].ws.length ≤ 30 := hfar c74
       refine vc_guardT 74 rfl rfl ?_
       refine vc_y (y_fieldP fl_37_4 4 rfl rfl) rfl ?_
       refine vc_guardT 74 rfl rfl ?_
       refine vc_y (y_load1 1 rfl one_9 rfl (Pts.vis rfl)) rfl ?_
       refine vc_guardT 74 rfl rfl ?_
       refine vc_y (y_strLen Tryz.underlying9 rfl) rfl ?_
       refine vc_guardT 74 rfl rfl ?_
       iterate 3 refine vp ?_
       first | refine vc_splitP 80 rfl (fun c80 => ?_) (fun c80 => ?_) | refine vc_splitN 80 rfl (fun c80 => ?_) (fun c80 => ?_) | refine vc_split 80 rfl (fun c80 => ?_) (fun c80 => ?_)
       ·skip
        refine vc_guardF 80 rfl rfl rfl rfl ?_
        refine vc_guardF 80 rfl rfl rfl rfl ?_
        refine vc_guardF 80 rfl rfl rfl rfl ?_
        refine vp ?_
        refine vc_nil ?_
        refine vc_then ?_
        refine vc_condT rfl ?_
        refine vc_exit ?_
        refine vc_thenExit ?_
        refine vc_inExit ?_
        refine vc_then ?_
        refine vc_region ?_
        refine vp ?_
        first | refine vc_y (y_arith _ rfl (wrapNadd (by omega))) rfl ?_ | refine vc_y (y_arith _ rfl (wrap64 (by omega) (by omega))) rfl ?_ | refine vp ?_
        refine vp ?_
        refine vc_nil ?_
        refine vc_then ?_
        first | exact vc_again (x := (i, X, N, x, z)) (i + 1, X3, N4, x3, z + 1) ⟨by omega, hS3, hW4, by omega, by omega⟩ (by show 120 - (i + 1) < 120 - i; omega) ⟨rfl, rfl, rfl, rfl, rfl, rfl, rfl, rfl, rfl, trivial⟩ (ent_pick [2, 2, 2, 2, 0] rfl) | exact vc_again (x := (i, X, N, x, z)) (i + 1, X, N, x, z) ⟨by omega, hS.skip, hW, by omega, by omega⟩ (by show 120 - (i + 1) < 120 - i; omega) ⟨rfl, rfl, rfl, rfl, rfl, rfl, rfl, rfl, rfl, trivial⟩ (ent_pick [2, 2, 2, 2, 0] rfl)
       ·skip
        refine vc_guardT 80 rfl rfl ?_
        refine vc_y (y_fieldP fl_37_0 0 rfl rfl) rfl ?_
        refine vc_guardT 80 rfl rfl ?_
        refine vc_y (y_load1 1 rfl one_3 rfl (Pts.vis rfl)) rfl ?_
        refine vc_guardT 80 rfl rfl ?_
        refine vp ?_
        refine vp ?_
        refine vc_nil ?_
        refine vc_then ?_
        first | refine vc_condP rfl (fun c84 => ?_) (fun c84 => ?_) | refine vc_condN rfl (fun c84 => ?_) (fun c84 => ?_) | refine vc_cond rfl (fun c84 => ?_) (fun c84 => ?_)
        ·skip
         refine vc_exit ?_
         refine vc_thenExit ?_
         refine vc_inExit ?_
         refine vc_then ?_
         refine vc_region ?_
         refine vp ?_
         first | refine vc_y (y_arith _ rfl (wrapNadd (by omega))) rfl ?_ | refine vc_y (y_arith _ rfl (wrap64 (by omega) (by omega))) rfl ?_ | refine vp ?_
         refine vp ?_
         refine vc_nil ?_
         refine vc_then ?_
         first | exact vc_again (x := (i, X, N, x, z)) (i + 1, X3, N4, x3, z + 1) ⟨by omega, hS3, hW4, by omega, by omega⟩ (by show 120 - (i + 1) < 120 - i; omega) ⟨rfl, rfl, rfl, rfl, rfl, rfl, rfl, rfl, rfl, trivial⟩ (ent_pick [2, 2, 2, 2, 0] rfl) | exact vc_again (x := (i, X, N, x, z)) (i + 1, X, N, x, z) ⟨by omega, hS.skip, hW, by omega, by omega⟩ (by show 120 - (i + 1) < 120 - i; omega) ⟨rfl, rfl, rfl, rfl, rfl, rfl, rfl, rfl, rfl, trivial⟩ (ent_pick [2, 2, 2, 2, 0] rfl)
        ·skip
         have hk2 : ¬ acts[i].kind = 2 := c84
         refine vc_skip ?_
         refine vc_then ?_
         refine vc_seq ?_
         refine vc_seq ?_
         refine vc_region ?_
         obtain ⟨X2, x2, hax⟩ : ∃ X2 x2, actX X acts[i] x = (X2, x2) := ⟨_, _, rfl⟩
         have hby := (hA _ (List.getElem_mem hi2)).by'
         refine vp ?_
         refine vp ?_
         refine vc_y (y_loadA 1 rfl (cs := [_, _, _, _, _]) ag_37 rfl (Pts.visA rfl)) rfl ?_
         refine vc_callv ca_14 (us := []) (vs := []) rfl [_, _, _, _] rfl [2, 3, 3, 0] rfl (does_spec2 ok (hA _ (List.getElem_mem hi2)) (by omega) (by omega) (.inl (by omega)) hax) rfl ?_
         rintro _ _ ⟨rfl, hok2, rfl⟩
         have hS2 : StepOk label ring quota most (i + 1) X2 := by
          have h0 := hS.act hwl x (by rw [hax]; exact hok2)
          rwa [hax] at h0
         refine vp ?_
         refine vc_nil ?_
         refine vc_then ?_
         refine vc_condF rfl ?_
         refine vc_skip ?_
         refine vc_then ?_
         refine vc_seq ?_
         refine vc_cut (α := RmX × Mp × Int) (fun xq_ => match xq_ with | (X3, N3, x3) => [(1, ha.v), (2, hs.v), (7, .pointer (some ⟨b, 0, none⟩)), (9, .pointer (some ⟨bb, 0, none⟩)), (11, .pointer (some ⟨bm, 0, none⟩)), (12, .pointer (some ⟨b12, 0, none⟩)), (13, .int .u64 x3), (14, .int .u64 z), (15, .int .i64 (i : Int)), (16, .pointer (some ⟨b16, 0, none⟩))]) (fun xq_ => match xq_ with | (X3, N3, x3) => [RoomC b X3, RoomC bb (xb X3 N3), RefC bm X3, Pts b12 [.int .u64 x3] 34, Pts b16 [.int .i64 acts[i].kind, acts[i].hL.v, .int .u8 acts[i].by', .int .i64 acts[i].seq, .string acts[i].key] 37, W]) (fun xq_ => match xq_ with | (X3, N3, x3) => StepOk label ring quota most (i + 1) X3 ∧ Sw X3 N3) ?_ ?_
         ·skip
          refine vc_seq ?_
          refine vc_region ?_
          refine vc_y (y_fieldP fl_37_0 0 rfl rfl) rfl ?_
          refine vc_y (y_load1 4 rfl one_3 rfl (Pts.vis rfl)) rfl ?_
          refine vp ?_
          refine vc_nil ?_
          refine vc_then ?_
          first | refine vc_condP rfl (fun c92 => ?_) (fun c92 => ?_) | refine vc_condN rfl (fun c92 => ?_) (fun c92 => ?_) | refine vc_cond rfl (fun c92 => ?_) (fun c92 => ?_)
          ·skip
           have hk1 : acts[i].kind = 1 := c92
           have hax2 : X2 = (commitX X acts[i].ws (stampA acts[i] x)).2.2 ∧ x2 = (if (commitX X acts[i].ws (stampA acts[i] x)).2.1 = 0 then stampA acts[i] x else x) := by
            unfold actX at hax
            rw [if_pos hk1] at hax
            exact ⟨(congrArg Prod.fst hax).symm, (congrArg Prod.snd hax).symm⟩
           obtain ⟨rfl, rfl⟩ := hax2
           obtain ⟨e1, e2, N', e3, hW'⟩ := hW.commit acts[i].ws (stampA acts[i] x) (by omega) (by omega)
           have hcn := commit_n X acts[i].ws (stampA acts[i] x)
           refine vc_seq ?_
           refine vc_region ?_
           refine vp ?_
           refine vc_y (y_fieldP fl_37_1 1 rfl rfl) rfl ?_
           refine vc_y (y_load1 4 rfl one_35 rfl (Pts.vis rfl)) rfl ?_
           refine vp ?_
           refine vc_y (y_fieldP fl_37_2 2 rfl rfl) rfl ?_
           refine vc_y (y_load1 4 rfl one_5 rfl (Pts.vis rfl)) rfl ?_
           first | refine vc_y (y_conv _ Tryz.underlying5 Tryz.underlying34 rfl (wrapU64 (by omega) (by omega))) rfl ?_ | refine vc_y (y_conv _ Tryz.underlying5 Tryz.underlying34 rfl rfl) rfl ?_
           refine vc_y (y_p (Value.int .u64 (stampA acts[i] x)) rfl) rfl ?_
           refine vc_callv ca_15 (us := []) (vs := []) rfl [_, _, _] rfl [5, 3] rfl (room_commit hW.ok2 (hA _ (List.getElem_mem hi2)).vis (by omega) (stampA acts[i] x) (by show X.R.seq - X.R.begin < 900000; omega) (.inl (by have := hW.sw.ks.length_le; simp only [xb, Eng.ks, List.length_map] at this ⊢; omega))) rfl ?_
           rintro _ _ ⟨rfl, rfl⟩
           rw [e1, e2, e3]
           iterate 5 refine vp ?_
           refine vc_nil ?_
           refine vc_then ?_
           refine vc_seq ?_
           refine vc_seq ?_
           refine vc_region ?_
           refine vp ?_
           refine vp ?_
           refine vc_nil ?_
           refine vc_then ?_
           first | refine vc_condP rfl (fun c106 => ?_) (fun c106 => ?_) | refine vc_condN rfl (fun c106 => ?_) (fun c106 => ?_) | refine vc_cond rfl (fun c106 => ?_) (fun c106 => ?_)
           ·skip
            rw [if_pos c106]
            refine vc_region ?_
            refine vp ?_
            refine vc_y (y_fieldP fl_37_2 2 rfl rfl) rfl ?_
            refine vc_y (y_load1 5 rfl one_5 rfl (Pts.vis rfl)) rfl ?_
            first | refine vc_y (y_conv _ Tryz.underlying5 Tryz.underlying34 rfl (wrapU64 (by omega) (by omega))) rfl ?_ | refine vc_y (y_conv _ Tryz.underlying5 Tryz.underlying34 rfl rfl) rfl ?_
            refine vc_y (y_p (Value.int .u64 (stampA acts[i] x)) rfl) rfl ?_
            refine vp ?_
            refine vc_nil ?_
            refine vc_then ?_
            refine vc_seq ?_
            refine vc_region ?_
            iterate 3 refine vp ?_
            first | refine vc_splitP 114 rfl (fun c114 => ?_) (fun c114 => ?_) | refine vc_splitN 114 rfl (fun c114 => ?_) (fun c114 => ?_) | refine vc_split 114 rfl (fun c114 => ?_) (fun c114 => ?_)
            ·skip
             refine vc_guardT 114 rfl rfl ?_
             refine vp ?_
             refine vc_guardT 114 rfl rfl ?_
             refine vp ?_
             refine vc_guardT 114 rfl rfl ?_
             refine vc_callv ca_16 (us := []) (vs := []) rfl [_] rfl [2] rfl (room_seq hok2) rfl ?_
             rintro _ _ ⟨rfl, rfl⟩
             refine vc_guardT 114 rfl rfl ?_
             iterate 3 refine vp ?_
             first | refine vc_splitP 120 rfl (fun c120 => ?_) (fun c120 => ?_) | refine vc_splitN 120 rfl (fun c120 => ?_) (fun c120 => ?_) | refine vc_split 120 rfl (fun c120 => ?_) (fun c120 => ?_)
             ·skip
              first | (exact absurd (hcn.resolve_left c114) c120) | (simp at c120)
             ·skip
              refine vc_guardT 120 rfl rfl ?_
              refine vc_y (y_load1 4 rfl one_34 rfl (Pts.vis rfl)) rfl ?_
              refine vc_guardT 120 rfl rfl ?_
              refine vp ?_
              refine vc_guardT 120 rfl rfl ?_
              refine vp ?_
              refine vp ?_
              refine vc_nil ?_
              refine vc_then ?_
              first | refine vc_condP rfl (fun c124 => ?_) (fun c124 => ?_) | refine vc_condN rfl (fun c124 => ?_) (fun c124 => ?_) | refine vc_cond rfl (fun c124 => ?_) (fun c124 => ?_)
              ·skip
               simp at c124
              ·skip
               refine vc_skip ?_
               refine vc_then ?_
               first | exact vc_met (_, N', stampA acts[i] x) ⟨hS2, hW'⟩ ⟨rfl, rfl, rfl, rfl, rfl, rfl, rfl, rfl, rfl, rfl, trivial⟩ (ent_pick [0, 0, 1, 1, 1, 0] rfl) | exact vc_met (_, N', x) ⟨hS2, hW'⟩ ⟨rfl, rfl, rfl, rfl, rfl, rfl, rfl, rfl, rfl, rfl, trivial⟩ (ent_pick [0, 0, 1, 1, 1, 0] rfl) | exact vc_met (X, N, x) ⟨hS2, hW⟩ ⟨rfl, rfl, rfl, rfl, rfl, rfl, rfl, rfl, rfl, rfl, trivial⟩ (ent_pick [0, 0, 1, 1, 1, 0] rfl)
            ·skip
             refine vc_guardF 114 rfl rfl rfl rfl ?_
             refine vc_guardF 114 rfl rfl rfl rfl ?_
             refine vc_guardF 114 rfl rfl rfl rfl ?_
             refine vc_guardF 114 rfl rfl rfl rfl ?_
             refine vp ?_
             refine vp ?_
             refine vc_guardT 120 rfl rfl ?_
             refine vc_y (y_load1 4 rfl one_34 rfl (Pts.vis rfl)) rfl ?_
             refine vc_guardT 120 rfl rfl ?_
             refine vp ?_
             refine vc_guardT 120 rfl rfl ?_
             refine vp ?_
             refine vp ?_
             refine vc_nil ?_
             refine vc_then ?_
             first | refine vc_condP rfl (fun c124 => ?_) (fun c124 => ?_) | refine vc_condN rfl (fun c124 => ?_) (fun c124 => ?_) | refine vc_cond rfl (fun c124 => ?_) (fun c124 => ?_)
             ·skip
              simp at c124
             ·skip
              refine vc_skip ?_
              refine vc_then ?_
              first | exact vc_met (_, N', stampA acts[i] x) ⟨hS2, hW'⟩ ⟨rfl, rfl, rfl, rfl, rfl, rfl, rfl, rfl, rfl, rfl, trivial⟩ (ent_pick [2, 0, 1, 1, 1, 0] rfl) | exact vc_met (_, N', x) ⟨hS2, hW'⟩ ⟨rfl, rfl, rfl, rfl, rfl, rfl, rfl, rfl, rfl, rfl, trivial⟩ (ent_pick [2, 0, 1, 1, 1, 0] rfl) | exact vc_met (X, N, x) ⟨hS2, hW⟩ ⟨rfl, rfl, rfl, rfl, rfl, rfl, rfl, rfl, rfl, rfl, trivial⟩ (ent_pick [2, 0, 1, 1, 1, 0] rfl)
           ·skip
            rw [if_neg c106]
            refine vc_skip ?_
            refine vc_then ?_
            refine vc_seq ?_
            refine vc_region ?_
            iterate 3 refine vp ?_
            first | refine vc_splitP 114 rfl (fun c114 => ?_) (fun c114 => ?_) | refine vc_splitN 114 rfl (fun c114 => ?_) (fun c114 => ?_) | refine vc_split 114 rfl (fun c114 => ?_) (fun c114 => ?_)
            ·skip
             refine vc_guardT 114 rfl rfl ?_
             refine vp ?_
             refine vc_guardT 114 rfl rfl ?_
             refine vp ?_
             refine vc_guardT 114 rfl rfl ?_
             refine vc_callv ca_16 (us := []) (vs := []) rfl [_] rfl [2] rfl (room_seq hok2) rfl ?_
             rintro _ _ ⟨rfl, rfl⟩
             refine vc_guardT 114 rfl rfl ?_
             iterate 3 refine vp ?_
             first | refine vc_splitP 120 rfl (fun c120 => ?_) (fun c120 => ?_) | refine vc_splitN 120 rfl (fun c120 => ?_) (fun c120 => ?_) | refine vc_split 120 rfl (fun c120 => ?_) (fun c120 => ?_)
             ·skip
              first | (exact absurd (hcn.resolve_left c114) c120) | (simp at c120)
             ·skip
              refine vc_guardT 120 rfl rfl ?_
              refine vc_y (y_load1 4 rfl one_34 rfl (Pts.vis rfl)) rfl ?_
              refine vc_guardT 120 rfl rfl ?_
              refine vp ?_
              refine vc_guardT 120 rfl rfl ?_
              refine vp ?_
              refine vp ?_
              refine vc_nil ?_
              refine vc_then ?_
              first | refine vc_condP rfl (fun c124 => ?_) (fun c124 => ?_) | refine vc_condN rfl (fun c124 => ?_) (fun c124 => ?_) | refine vc_cond rfl (fun c124 => ?_) (fun c124 => ?_)
              ·skip
               simp at c124
              ·skip
               refine vc_skip ?_
               refine vc_then ?_
               first | exact vc_met (_, N', stampA acts[i] x) ⟨hS2, hW'⟩ ⟨rfl, rfl, rfl, rfl, rfl, rfl, rfl, rfl, rfl, rfl, trivial⟩ (ent_pick [0, 0, 1, 1, 1, 0] rfl) | exact vc_met (_, N', x) ⟨hS2, hW'⟩ ⟨rfl, rfl, rfl, rfl, rfl, rfl, rfl, rfl, rfl, rfl, trivial⟩ (ent_pick [0, 0, 1, 1, 1, 0] rfl) | exact vc_met (X, N, x) ⟨hS2, hW⟩ ⟨rfl, rfl, rfl, rfl, rfl, rfl, rfl, rfl, rfl, rfl, trivial⟩ (ent_pick [0, 0, 1, 1, 1, 0] rfl)
            ·skip
             refine vc_guardF 114 rfl rfl rfl rfl ?_
             refine vc_guardF 114 rfl rfl rfl rfl ?_
             refine vc_guardF 114 rfl rfl rfl rfl ?_
             refine vc_guardF 114 rfl rfl rfl rfl ?_
             refine vp ?_
             refine vp ?_
             refine vc_guardT 120 rfl rfl ?_
             refine vc_y (y_load1 4 rfl one_34 rfl (Pts.vis rfl)) rfl ?_
             refine vc_guardT 120 rfl rfl ?_
             refine vp ?_
             refine vc_guardT 120 rfl rfl ?_
             refine vp ?_
             refine vp ?_
             refine vc_nil ?_
             refine vc_then ?_
             first | refine vc_condP rfl (fun c124 => ?_) (fun c124 => ?_) | refine vc_condN rfl (fun c124 => ?_) (fun c124 => ?_) | refine vc_cond rfl (fun c124 => ?_) (fun c124 => ?_)
             ·skip
              simp at c124
             ·skip
              refine vc_skip ?_
              refine vc_then ?_
              first | exact vc_met (_, N', stampA acts[i] x) ⟨hS2, hW'⟩ ⟨rfl, rfl, rfl, rfl, rfl, rfl, rfl, rfl, rfl, rfl, trivial⟩ (ent_pick [2, 0, 1, 1, 1, 0] rfl) | exact vc_met (_, N', x) ⟨hS2, hW'⟩ ⟨rfl, rfl, rfl, rfl, rfl, rfl, rfl, rfl, rfl, rfl, trivial⟩ (ent_pick [2, 0, 1, 1, 1, 0] rfl) | exact vc_met (X, N, x) ⟨hS2, hW⟩ ⟨rfl, rfl, rfl, rfl, rfl, rfl, rfl, rfl, rfl, rfl, trivial⟩ (ent_pick [2, 0, 1, 1, 1, 0] rfl)
          ·skip
           have hax2 : X = X2 ∧ x = x2 := by
            unfold actX at hax
            rw [if_neg c92, if_neg hk2] at hax
            exact ⟨congrArg Prod.fst hax, congrArg Prod.snd hax⟩
           obtain ⟨rfl, rfl⟩ := hax2
           refine vc_skip ?_
           refine vc_then ?_
           first | exact vc_met (_, N', stampA acts[i] x) ⟨hS2, hW'⟩ ⟨rfl, rfl, rfl, rfl, rfl, rfl, rfl, rfl, rfl, rfl, trivial⟩ (ent_pick [0, 4, 0, 0, 1, 0] rfl) | exact vc_met (_, N', x) ⟨hS2, hW'⟩ ⟨rfl, rfl, rfl, rfl, rfl, rfl, rfl, rfl, rfl, rfl, trivial⟩ (ent_pick [0, 4, 0, 0, 1, 0] rfl) | exact vc_met (X, N, x) ⟨hS2, hW⟩ ⟨rfl, rfl, rfl, rfl, rfl, rfl, rfl, rfl, rfl, rfl, trivial⟩ (ent_pick [0, 4, 0, 0, 1, 0] rfl)
         rintro ⟨X3, N3, x3⟩ ⟨hS3, hW3⟩
         show VC _ _ _ _ [(1, ha.v), (2, hs.v), (7, .pointer (some ⟨b, 0, none⟩)), (9, .pointer (some ⟨bb, 0, none⟩)), (11, .pointer (some ⟨bm, 0, none⟩)), (12, .pointer (some ⟨b12, 0, none⟩)), (13, .int .u64 x3), (14, .int .u64 z), (15, .int .i64 (i : Int)), (16, .pointer (some ⟨b16, 0, none⟩))] ([RoomC b X3, RoomC bb (xb X3 N3), RefC bm X3, Pts b12 [.int .u64 x3] 34, Pts b16 [.int .i64 acts[i].kind, acts[i].hL.v, .int .u8 acts[i].by', .int .i64 acts[i].seq, .string acts[i].key] 37, W])
         have ok3 := hS3.ok
         have hsq3 : X3.R.seq ≤ 1073741824 := ok3.rg.q
         have hsb3 := hS3.bg
         have hsl3 := hS3.len
         refine vc_seq ?_
         refine vc_cut (α := Mp) (fun xq_ => match xq_ with | N4 => [(1, ha.v), (2, hs.v), (7, .pointer (some ⟨b, 0, none⟩)), (9, .pointer (some ⟨bb, 0, none⟩)), (11, .pointer (some ⟨bm, 0, none⟩)), (12, .pointer (some ⟨b12, 0, none⟩)), (13, .int .u64 x3), (14, .int .u64 z), (15, .int .i64 (i : Int)), (16, .pointer (some ⟨b16, 0, none⟩))]) (fun xq_ => match xq_ with | N4 => [RoomC b X3, RoomC bb (xb X3 N4), RefC bm X3, Pts b12 [.int .u64 x3] 34, Pts b16 [.int .i64 acts[i].kind, acts[i].hL.v, .int .u8 acts[i].by', .int .i64 acts[i].seq, .string acts[i].key] 37, W]) (fun xq_ => match xq_ with | N4 => Sw X3 N4) ?_ ?_
         ·skip
          refine vc_seq ?_
          refine vc_region ?_
          refine vp ?_
          refine vp ?_
          refine vc_y (y_len Tryz.underlying26 rfl (by first | assumption | rfl)) rfl ?_
          refine vp ?_
          refine vp ?_
          first | refine vc_splitP 129 rfl (fun c129 => ?_) (fun c129 => ?_) | refine vc_splitN 129 rfl (fun c129 => ?_) (fun c129 => ?_) | refine vc_split 129 rfl (fun c129 => ?_) (fun c129 => ?_)
          ·skip
           have hib : i < bs.length := by omega
           refine vc_guardT 129 rfl rfl ?_
           refine vp ?_
           refine vc_guardT 129 rfl rfl ?_
           refine vp ?_
           refine vc_guardT 129 rfl rfl ?_
           refine vc_y (y_elem 5 rfl (hvs) i rfl hib sl_26 rfl rfl) rfl ?_
           refine vc_guardT 129 rfl rfl ?_
           refine vc_y (y_load1 5 rfl one_4 rfl (Rd.vis1 (hvs) (List.getElem?_eq_getElem (by first | assumption | omega)) rfl)) rfl ?_
           refine vp ?_
           refine vc_nil ?_
           refine vc_then ?_
           first | refine vc_condP rfl (fun c134 => ?_) (fun c134 => ?_) | refine vc_condN rfl (fun c134 => ?_) (fun c134 => ?_) | refine vc_cond rfl (fun c134 => ?_) (fun c134 => ?_)
           ·skip
            refine vc_seq ?_
            refine vc_region ?_
            refine vp ?_
            refine vc_callv ca_17 (us := []) (vs := []) rfl [_] rfl [1] rfl (room_sweep hW3.ok2) rfl ?_
            rintro _ _ ⟨rfl, rfl⟩
            refine vc_nil ?_
            refine vc_then ?_
            refine vc_seq ?_
            refine vc_region ?_
            refine vp ?_
            refine vc_callv ca_17 (us := []) (vs := []) rfl [_] rfl [0] rfl (room_sweep hW3.swept.ok2) rfl ?_
            rintro _ _ ⟨rfl, rfl⟩
            refine vp ?_
            refine vc_nil ?_
            refine vc_then ?_
            first | refine vc_condP rfl (fun c139 => ?_) (fun c139 => ?_) | refine vc_condN rfl (fun c139 => ?_) (fun c139 => ?_) | refine vc_cond rfl (fun c139 => ?_) (fun c139 => ?_)
            ·skip
             exact absurd (show versM (sweepM N3 X3.R.floor) - versM (sweepM (sweepM N3 X3.R.floor) X3.R.floor) = 0 by rw [sweep_twice (N := N3) hW3.ok2.rt]; omega) c139
            ·skip
             refine vc_skip ?_
             refine vc_then ?_
             first | exact vc_met (sweepM (sweepM N3 X3.R.floor) X3.R.floor) hW3.swept.swept ⟨rfl, rfl, rfl, rfl, rfl, rfl, rfl, rfl, rfl, rfl, trivial⟩ (ent_pick [1, 0, 0, 0, 0, 0] rfl) | exact vc_met N3 hW3 ⟨rfl, rfl, rfl, rfl, rfl, rfl, rfl, rfl, rfl, rfl, trivial⟩ (ent_pick [1, 0, 0, 0, 0, 0] rfl)
           ·skip
            refine vc_skip ?_
            refine vc_then ?_
            first | exact vc_met (sweepM (sweepM N3 X3.R.floor) X3.R.floor) hW3.swept.swept ⟨rfl, rfl, rfl, rfl, rfl, rfl, rfl, rfl, rfl, rfl, trivial⟩ (ent_pick [0, 0, 0, 0, 0, 0] rfl) | exact vc_met N3 hW3 ⟨rfl, rfl, rfl, rfl, rfl, rfl, rfl, rfl, rfl, rfl, trivial⟩ (ent_pick [0, 0, 0, 0, 0, 0] rfl)
          ·skip
           refine vc_guardF 129 rfl rfl rfl rfl ?_
           refine vc_guardF 129 rfl rfl rfl rfl ?_
           refine vc_guardF 129 rfl rfl rfl rfl ?_
           refine vc_guardF 129 rfl rfl rfl rfl ?_
           refine vp ?_
           refine vc_nil ?_
           refine vc_then ?_
           refine vc_condF rfl ?_
           refine vc_skip ?_
           refine vc_then ?_
           first | exact vc_met (sweepM (sweepM N3 X3.R.floor) X3.R.floor) hW3.swept.swept ⟨rfl, rfl, rfl, rfl, rfl, rfl, rfl, rfl, rfl, rfl, trivial⟩ (ent_pick [0, 0, 0, 0, 0, 0] rfl) | exact vc_met N3 hW3 ⟨rfl, rfl, rfl, rfl, rfl, rfl, rfl, rfl, rfl, rfl, trivial⟩ (ent_pick [0, 0, 0, 0, 0, 0] rfl)
         rintro N4 hW4
         show VC _ _ _ _ [(1, ha.v), (2, hs.v), (7, .pointer (some ⟨b, 0, none⟩)), (9, .pointer (some ⟨bb, 0, none⟩)), (11, .pointer (some ⟨bm, 0, none⟩)), (12, .pointer (some ⟨b12, 0, none⟩)), (13, .int .u64 x3), (14, .int .u64 z), (15, .int .i64 (i : Int)), (16, .pointer (some ⟨b16, 0, none⟩))] ([RoomC b X3, RoomC bb (xb X3 N4), RefC bm X3, Pts b12 [.int .u64 x3] 34, Pts b16 [.int .i64 acts[i].kind, acts[i].hL.v, .int .u8 acts[i].by', .int .i64 acts[i].seq, .string acts[i].key] 37, W])
         have hkl := hW4.sw.vers
         refine vc_seq ?_
         refine vc_region ?_
         refine vp ?_
         refine vc_y (y_arith (z + 1) rfl (wrapU64 (by omega) (by omega))) rfl ?_
         refine vp ?_
         refine vc_nil ?_
         refine vc_then ?_
         refine vc_seq ?_
         refine vc_seq ?_
         refine vc_region ?_
         refine vp ?_
         refine vc_callv ca_18 (us := []) (vs := []) rfl [_] rfl [0] rfl (room_floor ok3) rfl ?_
         rintro _ _ ⟨rfl, rfl⟩
         refine vp ?_
         refine vc_nil ?_
         refine vc_then ?_
         refine vc_block ?_
         refine vc_loop (α := Int) (fun xq_ => match xq_ with | t => [(1, ha.v), (2, hs.v), (7, .pointer (some ⟨b, 0, none⟩)), (9, .pointer (some ⟨bb, 0, none⟩)), (11, .pointer (some ⟨bm, 0, none⟩)), (12, .pointer (some ⟨b12, 0, none⟩)), (13, .int .u64 x3), (14, .int .u64 (z + 1)), (15, .int .i64 (i : Int)), (16, .pointer (some ⟨b16, 0, none⟩)), (19, .int .i64 t)]) (fun xq_ => match xq_ with | t => [RoomC b X3, RoomC bb (xb X3 N4), RefC bm X3, Pts b12 [.int .u64 x3] 34, Pts b16 [.int .i64 acts[i].kind, acts[i].hL.v, .int .u8 acts[i].by', .int .i64 acts[i].seq, .string acts[i].key] 37, W]) (fun xq_ => match xq_ with | t => (X3.R.seq + 1 - t).toNat) (fun xq_ => match xq_ with | t => X3.R.floor ≤ t) X3.R.floor (Int.le_refl _) ⟨rfl, rfl, rfl, rfl, rfl, rfl, rfl, rfl, rfl, rfl, rfl, trivial⟩ (ent_pick [0, 0, 0, 0, 0, 0] rfl) ?_
         rintro t ht
         show VC _ _ _ _ [(1, ha.v), (2, hs.v), (7, .pointer (some ⟨b, 0, none⟩)), (9, .pointer (some ⟨bb, 0, none⟩)), (11, .pointer (some ⟨bm, 0, none⟩)), (12, .pointer (some ⟨b12, 0, none⟩)), (13, .int .u64 x3), (14, .int .u64 (z + 1)), (15, .int .i64 (i : Int)), (16, .pointer (some ⟨b16, 0, none⟩)), (19, .int .i64 t)] ([RoomC b X3, RoomC bb (xb X3 N4), RefC bm X3, Pts b12 [.int .u64 x3] 34, Pts b16 [.int .i64 acts[i].kind, acts[i].hL.v, .int .u8 acts[i].by', .int .i64 acts[i].seq, .string acts[i].key] 37, W])
         refine vc_seq ?_
         refine vc_seq ?_
         refine vc_region ?_
         refine vp ?_
         refine vp ?_
         refine vc_callv ca_16 (us := []) (vs := []) rfl [_] rfl [0] rfl (room_seq ok3) rfl ?_
         rintro _ _ ⟨rfl, rfl⟩
         refine vp ?_
         refine vc_nil ?_
         refine vc_then ?_
         first | refine vc_condP rfl (fun c147 => ?_) (fun c147 => ?_) | refine vc_condN rfl (fun c147 => ?_) (fun c147 => ?_) | refine vc_cond rfl (fun c147 => ?_) (fun c147 => ?_)
         ·skip
          have hb0 := ok3.rg.b0
          have ht0 : 0 ≤ t := by have h0 := ht; unfold RR.floor at h0; omega
          have ht2 : t ≤ 9223372036854775807 := by omega
          have hge := hW4.get acts[i].key ht
          have hfr := hW4.sw.from hW4.ok.rt hW4.ok.rise ht acts[i].key true
          have hck := hW4.check acts[i].ws ht
          refine vc_skip ?_
          refine vc_then ?_
          refine vc_seq ?_
          refine vc_block ?_
          refine vc_seq ?_
          refine vc_region ?_
          refine vp ?_
          refine vc_y (y_fieldP fl_37_4 4 rfl rfl) rfl ?_
          refine vc_y (y_load1 4 rfl one_9 rfl (Pts.vis rfl)) rfl ?_
          refine vp ?_
          refine vc_callv ca_19 (us := []) (vs := []) rfl [_, _, _] rfl [0] rfl (room_get ok3 acts[i].key ht2) rfl ?_
          rintro _ _ ⟨rfl, rfl⟩
          iterate 3 refine vp ?_
          refine vc_alloc [.bool false, .string ⟨#[]⟩, .int .u64 0] ze_45 rfl rfl (fun b20 => ?_)
          refine vc_storeP 0 rfl [_, _, _] [_, _, _] rfl rfl rfl sz_45 rfl rfl rfl ?_
          refine vp ?_
          refine vc_nil ?_
          refine vc_then ?_
          refine vc_seq ?_
          refine vc_region ?_
          refine vp ?_
          refine vc_y (y_fieldP fl_37_4 4 rfl rfl) rfl ?_
          refine vc_y (y_load1 5 rfl one_9 rfl (Pts.vis rfl)) rfl ?_
          refine vp ?_
          refine vc_callv ca_19 (us := []) (vs := []) rfl [_, _, _] rfl [2] rfl (Does.re (room_get hW4.ok2 acts[i].key ht2) (show _ = valTup (verAt (chainM X3.M acts[i].key) t) by rw [← hge]; rfl)) rfl ?_
          rintro _ _ ⟨rfl, rfl⟩
          iterate 3 refine vp ?_
          refine vc_alloc [.bool false, .string ⟨#[]⟩, .int .u64 0] ze_45 rfl rfl (fun b22 => ?_)
          refine vc_storeP 0 rfl [_, _, _] [_, _, _] rfl rfl rfl sz_45 rfl rfl rfl ?_
          refine vp ?_
          refine vc_nil ?_
          refine vc_then ?_
          refine vc_seq ?_
          refine vc_region ?_
          refine vp ?_
          refine vc_y (y_fieldP fl_37_4 4 rfl rfl) rfl ?_
          refine vc_y (y_load1 6 rfl one_9 rfl (Pts.vis rfl)) rfl ?_
          refine vp ?_
          refine vc_callv ca_20 (us := []) (vs := []) rfl [_, _, _] rfl [3] rfl (room_after ok3 acts[i].key ht2) rfl ?_
          rintro _ _ ⟨rfl, rfl⟩
          iterate 4 refine vp ?_
          refine vc_alloc [.bool false, .string ⟨#[]⟩, .int .u64 0] ze_45 rfl rfl (fun b25 => ?_)
          refine vp ?_
          refine vc_storeP 0 rfl [_, _, _] [_, _, _] rfl rfl rfl sz_45 rfl rfl rfl ?_
          refine vp ?_
          refine vc_nil ?_
          refine vc_then ?_
          refine vc_seq ?_
          refine vc_region ?_
          refine vp ?_
          refine vc_y (y_fieldP fl_37_4 4 rfl rfl) rfl ?_
          refine vc_y (y_load1 7 rfl one_9 rfl (Pts.vis rfl)) rfl ?_
          refine vp ?_
          refine vc_callv ca_20 (us := []) (vs := []) rfl [_, _, _] rfl [3] rfl (Does.re (room_after hW4.ok2 acts[i].key ht2) (show _ = rowTup (liveFrom X3.M acts[i].key true t) by rw [← hfr]; rfl)) rfl ?_
          rintro _ _ ⟨rfl, rfl⟩
          iterate 4 refine vp ?_
          refine vc_alloc [.bool false, .string ⟨#[]⟩, .int .u64 0] ze_45 rfl rfl (fun b28 => ?_)
          refine vp ?_
          refine vc_storeP 0 rfl [_, _, _] [_, _, _] rfl rfl rfl sz_45 rfl rfl rfl ?_
          refine vp ?_
          refine vc_nil ?_
          refine vc_then ?_
          refine vc_seq ?_
          refine vc_draw (by kernel_rfl) _ none [8, 5, 4, 2, 0] rfl ?_
          refine tk 0 rfl (by exact y_loadA 1 rfl (cs := [_, _, _]) ag_45 rfl (Pts.visA rfl)) ?_
          refine tk 1 rfl (by exact y_loadA 2 rfl (cs := [_, _, _]) ag_45 rfl (Pts.visA rfl)) ?_
          refine tp 2 rfl (by exact y_neS eg_45 (eqv_45 _ _ _ _ _ _) rfl rfl) ?_
          refine tpp 3 ?_
          first | refine va_splitP 187 rfl (fun c187 => ?_) (fun c187 => ?_) | refine va_splitN 187 rfl (fun c187 => ?_) (fun c187 => ?_) | refine va_split 187 rfl (fun c187 => ?_) (fun c187 => ?_)
          ·skip
           simp at c187
          ·skip
           refine tgp 4 187 ?_
           refine tgp 5 187 ?_
           refine tg 6 187 rfl (by exact y_neB Tryz.underlying4 rfl rfl) ?_
           refine tpp 7 ?_
           refine tpp 8 ?_
           first | refine va_splitP 192 rfl (fun c192 => ?_) (fun c192 => ?_) | refine va_splitN 192 rfl (fun c192 => ?_) (fun c192 => ?_) | refine va_split 192 rfl (fun c192 => ?_) (fun c192 => ?_)
           ·skip
            simp at c192
           ·skip
            refine tgp 9 192 ?_
            refine tgp 10 192 ?_
            refine tgp 11 192 ?_
            refine tpp 12 ?_
            refine tpp 13 ?_
            first | refine va_splitP 197 rfl (fun c197 => ?_) (fun c197 => ?_) | refine va_splitN 197 rfl (fun c197 => ?_) (fun c197 => ?_) | refine va_split 197 rfl (fun c197 => ?_) (fun c197 => ?_)
            ·skip
             simp [sEq_self] at c197
            ·skip
             refine tkg 14 197 rfl (by exact y_loadA 3 rfl (cs := [_, _, _]) ag_45 rfl (Pts.visA rfl)) ?_
             refine tkg 15 197 rfl (by exact y_loadA 4 rfl (cs := [_, _, _]) ag_45 rfl (Pts.visA rfl)) ?_
             refine tg 16 197 rfl (by exact y_neS eg_45 (eqv_45 _ _ _ _ _ _) rfl rfl) ?_
             refine tpp 17 ?_
             refine tpp 18 ?_
             first | refine va_splitP 202 rfl (fun c202 => ?_) (fun c202 => ?_) | refine va_splitN 202 rfl (fun c202 => ?_) (fun c202 => ?_) | refine va_split 202 rfl (fun c202 => ?_) (fun c202 => ?_)
             ·skip
              simp at c202
             ·skip
              refine tgp 19 202 ?_
              refine tgp 20 202 ?_
              refine tg 21 202 rfl (by exact y_neB Tryz.underlying4 rfl rfl) ?_
              refine tpp 22 ?_
              refine tpp 23 ?_
              first | refine va_splitP 207 rfl (fun c207 => ?_) (fun c207 => ?_) | refine va_splitN 207 rfl (fun c207 => ?_) (fun c207 => ?_) | refine va_split 207 rfl (fun c207 => ?_) (fun c207 => ?_)
              ·skip
               simp at c207
              ·skip
               refine tgp 24 207 ?_
               refine tg 25 207 rfl (by exact y_fieldP fl_37_1 1 rfl rfl) ?_
               refine tkg 26 207 rfl (by exact y_load1 0 rfl one_35 rfl (Pts.vis rfl)) ?_
               refine tgp 27 207 ?_
               refine tgp 29 207 ?_
               refine tg 30 207 rfl (by exact y_fieldP fl_37_1 1 rfl rfl) ?_
               refine tkg 31 207 rfl (by exact y_load1 0 rfl one_35 rfl (Pts.vis rfl)) ?_
               refine tgp 32 207 ?_
               refine va_ready [28] (by kernel_rfl) rfl ?_
               refine vo_cons rfl (fun hC0 => ?_) ?_
               ·skip
                refine vc_guardT 207 rfl rfl ?_
                refine vc_callv ca_21 (us := []) (vs := []) rfl [_, _, _] rfl [3, 8] rfl (room_check ok3 (hA _ (List.getElem_mem hi2)).vis (by omega) t) rfl ?_
                rintro _ _ ⟨rfl, rfl⟩
                refine vc_nil ?_
                refine vc_then ?_
                refine va_kept hC0 [9, 6, 5, 4, 2] rfl ?_
                clear hC0
                refine va_ready [33] (by kernel_rfl) rfl ?_
                refine vo_cons rfl (fun hC0 => ?_) ?_
                ·skip
                 refine vc_guardT 207 rfl rfl ?_
                 refine vc_callv ca_21 (us := []) (vs := []) rfl [_, _, _] rfl [3, 1] rfl (Does.re (room_check hW4.ok2 (hA _ (List.getElem_mem hi2)).vis (by omega) t) (show _ = Value.int .i64 (checkE X3 acts[i].ws t) by rw [hck])) rfl ?_
                 rintro _ _ ⟨rfl, rfl⟩
                 refine vc_nil ?_
                 refine vc_then ?_
                 refine va_kept hC0 [9, 6, 5, 4, 3] rfl ?_
                 clear hC0
                 refine tgp 34 207 ?_
                 refine tpp 35 ?_
                 refine va_done (by kernel_rfl) ?_
                 refine vc_then ?_
                 first | refine vc_condP rfl (fun c219 => ?_) (fun c219 => ?_) | refine vc_condN rfl (fun c219 => ?_) (fun c219 => ?_) | refine vc_cond rfl (fun c219 => ?_) (fun c219 => ?_)
                 ·skip
                  simp at c219
                 ·skip
                  refine vc_skip ?_
                  refine vc_inNormal ?_
                  refine vc_then ?_
                  refine vc_region ?_
                  refine vp ?_
                  first | refine vc_y (y_arith _ rfl (wrapNadd (by omega))) rfl ?_ | refine vc_y (y_arith _ rfl (wrap64 (by omega) (by omega))) rfl ?_ | refine vp ?_
                  refine vp ?_
                  refine vc_nil ?_
                  refine vc_then ?_
                  exact vc_again (x := t) (t + 1) (by omega) (by show (X3.R.seq + 1 - (t + 1)).toNat < (X3.R.seq + 1 - t).toNat; omega) ⟨rfl, rfl, rfl, rfl, rfl, rfl, rfl, rfl, rfl, rfl, rfl, trivial⟩ (ent_pick [2, 0, 5, 5, 5, 0] rfl)
                exact vo_nil
               exact vo_nil
         ·skip
          refine vc_exit ?_
          refine vc_thenExit ?_
          refine vc_thenExit ?_
          refine vc_inExit ?_
          refine vc_then ?_
          refine vc_seq ?_
          refine vc_region ?_
          refine vp ?_
          refine vc_callv ca_22 (us := []) (vs := []) rfl [_] rfl [0] rfl (room_live ok3) rfl ?_
          rintro _ _ ⟨rfl, rfl⟩
          refine vp ?_
          refine vc_callv ca_22 (us := []) (vs := []) rfl [_] rfl [1] rfl (Does.re (room_live hW4.ok2) (show _ = Value.int .i64 (liveM X3.M) by rw [← hW4.sw.liveM hW4.ok.rt]; rfl)) rfl ?_
          rintro _ _ ⟨rfl, rfl⟩
          refine vp ?_
          refine vp ?_
          first | refine vc_splitP 225 rfl (fun c225 => ?_) (fun c225 => ?_) | refine vc_splitN 225 rfl (fun c225 => ?_) (fun c225 => ?_) | refine vc_split 225 rfl (fun c225 => ?_) (fun c225 => ?_)
          ·skip
           simp at c225
          ·skip
           refine vc_guardT 225 rfl rfl ?_
           refine vp ?_
           refine vc_guardT 225 rfl rfl ?_
           refine vc_callv ca_23 (us := []) (vs := []) rfl [_] rfl [1] rfl (room_keys ok3) rfl ?_
           rintro _ _ ⟨rfl, rfl⟩
           refine vc_guardT 225 rfl rfl ?_
           refine vp ?_
           refine vc_guardT 225 rfl rfl ?_
           refine vc_callv ca_23 (us := []) (vs := []) rfl [_] rfl [1] rfl (Does.re (room_keys hW4.ok2) (show _ = Value.int .i64 (countM X3.M) by rw [← hW4.sw.countM hW4.ok.rt]; rfl)) rfl ?_
           rintro _ _ ⟨rfl, rfl⟩
           refine vc_guardT 225 rfl rfl ?_
           iterate 3 refine vp ?_
           first | refine vc_splitP 232 rfl (fun c232 => ?_) (fun c232 => ?_) | refine vc_splitN 232 rfl (fun c232 => ?_) (fun c232 => ?_) | refine vc_split 232 rfl (fun c232 => ?_) (fun c232 => ?_)
           ·skip
            simp at c232
           ·skip
            refine vc_guardT 232 rfl rfl ?_
            refine vp ?_
            refine vc_guardT 232 rfl rfl ?_
            refine vc_callv ca_16 (us := []) (vs := []) rfl [_] rfl [1] rfl (room_seq ok3) rfl ?_
            rintro _ _ ⟨rfl, rfl⟩
            refine vc_guardT 232 rfl rfl ?_
            refine vp ?_
            refine vc_guardT 232 rfl rfl ?_
            refine vc_callv ca_16 (us := []) (vs := []) rfl [_] rfl [1] rfl (Does.re (room_seq hW4.ok2) (show _ = Value.int .i64 X3.R.seq from rfl)) rfl ?_
            rintro _ _ ⟨rfl, rfl⟩
            refine vc_guardT 232 rfl rfl ?_
            iterate 3 refine vp ?_
            first | refine vc_splitP 239 rfl (fun c239 => ?_) (fun c239 => ?_) | refine vc_splitN 239 rfl (fun c239 => ?_) (fun c239 => ?_) | refine vc_split 239 rfl (fun c239 => ?_) (fun c239 => ?_)
            ·skip
             simp at c239
            ·skip
             refine vc_guardT 239 rfl rfl ?_
             refine vp ?_
             refine vc_guardT 239 rfl rfl ?_
             refine vc_callv ca_24 (us := []) (vs := []) rfl [_] rfl [0] rfl (Does.re (room_vers hW4.ok2) (show _ = Value.int .i64 (versM N4) from rfl)) rfl ?_
             rintro _ _ ⟨rfl, rfl⟩
             refine vc_guardT 239 rfl rfl ?_
             refine vp ?_
             refine vc_guardT 239 rfl rfl ?_
             refine vc_callv ca_24 (us := []) (vs := []) rfl [_] rfl [1] rfl (room_vers ok3) rfl ?_
             rintro _ _ ⟨rfl, rfl⟩
             refine vc_guardT 239 rfl rfl ?_
             iterate 3 refine vp ?_
             first | refine vc_splitP 246 rfl (fun c246 => ?_) (fun c246 => ?_) | refine vc_splitN 246 rfl (fun c246 => ?_) (fun c246 => ?_) | refine vc_split 246 rfl (fun c246 => ?_) (fun c246 => ?_)
             ·skip
              exact absurd c246 (by omega)
             ·skip
              refine vc_guardT 246 rfl rfl ?_
              refine vp ?_
              refine vc_guardT 246 rfl rfl ?_
              refine vc_callv ca_26 (us := []) (vs := []) rfl [_] rfl [0] rfl (room_entries ok3) rfl ?_
              rintro _ _ ⟨g1, rfl, rfl⟩
              refine vc_guardT 246 rfl rfl ?_
              refine vp ?_
              refine vc_guardT 246 rfl rfl ?_
              refine vc_callv ca_26 (us := []) (vs := []) rfl [_] rfl [2] rfl (room_entries hW4.ok2) rfl ?_
              rintro _ _ ⟨g2, rfl, rfl⟩
              refine vc_guardT 246 rfl rfl ?_
              refine vc_callv ca_25 (us := []) (vs := []) rfl [_, _] rfl [3, 1] rfl (refSame_spec Sl.vis (by rw [show entM X3.M X3.R.seq = entM N4 X3.R.seq from (hW4.sw.ent hW4.ok.rt (by have := ok3.rg.s1; have := ok3.rg.b1; unfold RR.floor; omega)).symm]; exact Sl.vis) (by have h1 := ok3.le; have h2 := List.length_filterMap_le (en1 X3.R.seq) X3.M; unfold entM; omega)) rfl ?_
              rintro _ _ ⟨rfl, rfl⟩
              refine vc_guardT 246 rfl rfl ?_
              refine vp ?_
              refine vp ?_
              refine vc_nil ?_
              refine vc_then ?_
              refine vc_condF rfl ?_
              refine vc_skip ?_
              refine vc_inNormal ?_
              refine vc_then ?_
              refine vc_region ?_
              refine vp ?_
              first | refine vc_y (y_arith _ rfl (wrapNadd (by omega))) rfl ?_ | refine vc_y (y_arith _ rfl (wrap64 (by omega) (by omega))) rfl ?_ | refine vp ?_
              refine vp ?_
              refine vc_nil ?_
              refine vc_then ?_
              first | exact vc_again (x := (i, X, N, x, z)) (i + 1, X3, N4, x3, z + 1) ⟨by omega, hS3, hW4, by omega, by omega⟩ (by show 120 - (i + 1) < 120 - i; omega) ⟨rfl, rfl, rfl, rfl, rfl, rfl, rfl, rfl, rfl, trivial⟩ (ent_pick [3, 2, 2, 2, 3] rfl) | exact vc_again (x := (i, X, N, x, z)) (i + 1, X, N, x, z) ⟨by omega, hS.skip, hW, by omega, by omega⟩ (by show 120 - (i + 1) < 120 - i; omega) ⟨rfl, rfl, rfl, rfl, rfl, rfl, rfl, rfl, rfl, trivial⟩ (ent_pick [3, 2, 2, 2, 3] rfl)
     ·skip
      refine vc_exit ?_
      refine vc_thenExit ?_
      refine vc_thenExit ?_
      refine vc_inExit ?_
      refine vc_then ?_
      refine vc_seq ?_
      refine vc_region ?_
      iterate 3 refine vp ?_
      refine vc_nil ?_
      refine vc_then ?_
      refine vc_ret ?_
      exact vc_end1 Tryz.results3 rfl _ (ent_pick [4] rfl) ⟨by first | rfl | (simp; omega), rfl⟩
    ·skip
     refine vc_guardF 61 rfl rfl rfl rfl ?_
     refine vc_guardF 61 rfl rfl rfl rfl ?_
     refine vp ?_
     refine vc_nil ?_
     refine vc_then ?_
     refine vc_condF rfl ?_
     refine vc_exit ?_
     refine vc_thenExit ?_
     refine vc_thenExit ?_
     refine vc_inExit ?_
     refine vc_then ?_
     refine vc_seq ?_
     refine vc_region ?_
     iterate 3 refine vp ?_
     refine vc_nil ?_
     refine vc_then ?_
     refine vc_ret ?_
     exact vc_end1 Tryz.results3 rfl _ (ent_pick [4] rfl) ⟨by first | rfl | (simp; omega), rfl⟩
end Go.Proofs.YtcpbibdbahfgaaaGreat
namespace Go.Eng
def Mem (W : World) : HP := ⟨fun r _ => ∀ b o, W.heap[b]? = some o → r b = some o, fun hr _ h b o e => hr b o (h b o e)⟩
structure KeptW (W W' : World) : Prop where
 os : W'.os = W.os
 output : W'.output = W.output
 block : ∀ k, k < W.heap.size → W'.heap[k]? = W.heap[k]?
theorem mem_holds (W : World) : Holds ⟨W.os, W.output⟩ W (sep (seps [Mem W]) emp) :=
 ⟨rfl, rfl, fun b => W.heap[b]?, fun _ => none, ⟨fun _ _ h => h, fun _ _ h => (by cases h), fun _ => .inr rfl⟩, fun _ => none, fun _ => none, fun _ => .inl ⟨rfl, rfl⟩,
  ⟨fun _ => none, fun _ => none, fun _ => .inl ⟨rfl, rfl⟩, fun _ _ h => h, trivial⟩, trivial⟩
theorem mem_kept {W W' : World} (h : Holds ⟨W.os, W.output⟩ W' (sep (seps [Mem W]) emp)) : KeptW W W' := by
 obtain ⟨h1, h2, r, x, s, x1, x2, hj, ⟨y1, y2, hj2, hm, _⟩, _⟩ := h
 refine ⟨h1, h2, fun k hk => ?_⟩
 have e : W.heap[k]? = some W.heap[k] := Array.getElem?_eq_getElem hk
 rw [e]
 exact s.ro k _ (hm k _ e)
theorem law_calls {P : Program} {f : FuncId} {args : List Value} {W : World} (h : Does P f args [Mem W] (fun v l => v = .bool true ∧ l = [Mem W])) : Calls P f args.toArray W (fun e W' => e = .returned (.bool true) ∧ KeptW W W') :=
 (h _ emp W (mem_holds W)).mono fun e W' ⟨v, l', ⟨hv, hl⟩, he, hw⟩ => ⟨by rw [he, hv], mem_kept (by rw [hl] at hw; exact hw)⟩
theorem Mem.same {W W' : World} {ι : Io} (h : Holds ι W' (Mem W)) {a : Addr} {c : Value} (e : W.cell? a = some c) : W'.cell? a = some c := by
 obtain ⟨_, _, r, x, s, hm⟩ := h
 unfold World.cell? at e ⊢
 cases hb : W.heap[a.block]? with
 | none => rw [hb] at e; cases e
 | some o =>
  have h1 : W'.heap[a.block]? = some o := s.ro a.block o (hm _ _ hb)
  rw [hb] at e
  rw [h1]; exact e
theorem Rd.mem {α : Type} {E : Enc α} {h : SH} {xs : List α} {W : World} (r : Rd E h xs W) : Vis (Mem W) (Rd E h xs) := fun ι w hw => ⟨r.len, r.cap, r.adr, fun m c hc => Mem.same hw (r.cell m c hc)⟩
theorem KeptW.same {W W' : World} (h : KeptW W W') {p : MemPlace} (hp : p.block < W.heap.size) : W.sameAt W' p := by
 cases p with
 | cell b o => exact World.cell?_of_block (w := W) (h.block b hp)
 | map b => exact h.block b hp
theorem KeptW.frame {W W' : World} (h : KeptW W W') (may : MemPlace → Prop) : W.keptBut W' may := by
 refine ⟨h.os, h.output, fun i hi => ?_⟩
 rw [h.block i hi]
 split <;> simp_all
theorem KeptW.trod {H : Type} {enc : TypeId × Value → H} {P : Program} {t : TypeId} (hl : laidOutB P = true) (hr : P.readableRec t = true) (hrow : t < P.types.size) {W W' : World} {v : Value} {d : DataW H} {ps : List MemPlace}
  (h : DataW.Trod enc P W 0 (fun _ => true) true t v d ps) (hb : KeptW W W') : DataW.Trod enc P W' 0 (fun b => decide (b < W.heap.size)) true t v d ps := by
 have hlt : ∀ x ∈ ps, x.block < W.heap.size := by obtain ⟨m, hm⟩ := h; exact DataW.trod_lt m _ _ _ hm
 exact WideElems.Trod_stays hl hr hrow h (fun x hx => hb.same (hlt x hx)) (fun x hx => by simpa using hlt x hx)
theorem rd_ints {E : Enc Int} {k : IntKind} (hE : ∀ z, E.f z = [.int k z]) {W : World} {a : Addr} {len cap : Nat} {zs : List Int} (hl : len ≤ cap) (hz : zs.length = cap) (hc : ∀ i, i < zs.length → W.cell? (a.add i) = some (.int k (zs.getD i 0))) :
  Rd E ⟨some a, len, cap⟩ (zs.take len) W := by
 have hf : ∀ ys : List Int, flat E ys = ys.map (Value.int k) := fun ys => by
  induction ys with
  | nil => rfl
  | cons y ys ih => rw [flat_cons, hE, ih]; rfl
 have hsp : zs ≠ [] → a.spot = none := fun h => by
  have h0 := hc 0 (by cases zs with | nil => exact absurd rfl h | cons _ _ => simp)
  have e0 : a.add 0 = a := rfl
  rw [e0] at h0
  unfold World.cell? at h0
  cases hs : a.spot with
  | none => rfl
  | some s => rw [hs] at h0; split at h0 <;> simp at h0
 refine ⟨by simp; omega, by simp; omega, ?_, fun m c hm => ?_⟩
 ·by_cases h0 : zs = []
  ·right
   subst h0
   simp at hz
   exact ⟨by simp, by simp; omega⟩
  ·left
   have := hsp h0
   obtain ⟨b, o, s⟩ := a
   simp only at this
   subst this
   rfl
 ·rw [hf, List.getElem?_map] at hm
  have hml : m < len ∧ m < zs.length := by
   cases hg : (zs.take len)[m]? with
   | none => rw [hg] at hm; cases hm
   | some z => have := (List.getElem?_eq_some_iff.1 hg).1; rw [List.length_take] at this; omega
  have hne : zs ≠ [] := fun h0 => by rw [h0] at hml; simp at hml
  have hs := hsp hne
  rw [List.getElem?_take_of_lt hml.1, List.getElem?_eq_getElem hml.2] at hm
  simp at hm
  subst hm
  have h1 := hc m hml.2
  rw [List.getD_eq_getElem?_getD, List.getElem?_eq_getElem hml.2] at h1
  obtain ⟨b, o, s⟩ := a
  simp only at hs
  subst hs
  rw [add_lit] at h1
  exact h1
end Go.Eng
namespace Go.Eng
def Opens {α H : Type} (enc : TypeId × Value → H) (P : Program) (W : World) (E : Enc α) (R : α → Prop) : Prop :=
 ∀ fuel cs x, DataW.trod enc P W 0 (fun _ => true) true fuel E.ty cs = some x → ∃ a, cs = E.f a ∧ R a
theorem exists_list {α : Type} (Q : Nat → α → Prop) : ∀ n, (∀ i, i < n → ∃ a, Q i a) → ∃ xs : List α, xs.length = n ∧ ∀ i (h : i < xs.length), Q i xs[i]
 | 0, _ => ⟨[], rfl, fun i h => by simp at h⟩
 | n + 1, h => by
  obtain ⟨xs, h1, h2⟩ := exists_list Q n fun i hi => h i (by omega)
  obtain ⟨a, ha⟩ := h n (by omega)
  refine ⟨xs ++ [a], by simp [h1], fun i hi => ?_⟩
  by_cases hl : i < xs.length
  ·rw [List.getElem_append_left hl]; exact h2 i hl
  ·have : i = n := by simp at hi; omega
   subst this
   rw [List.getElem_append_right (by omega)]
   simpa [h1] using ha
theorem flat_inv {α : Type} {E : Enc α} : ∀ {xs : List α} {m : Nat} {c : Value}, (flat E xs)[m]? = some c → ∃ j k, ∃ hj : j < xs.length, m = j * E.sz + k ∧ (E.f xs[j])[k]? = some c
 | [], m, c, h => by simp [flat] at h
 | x :: xs, m, c, h => by
  rw [flat_cons] at h
  by_cases hm : m < (E.f x).length
  ·rw [List.getElem?_append_left hm] at h
   exact ⟨0, m, by simp, by omega, h⟩
  ·rw [List.getElem?_append_right (by omega)] at h
   obtain ⟨j, k, hj, e, hk⟩ := flat_inv h
   have hl := E.len x
   refine ⟨j + 1, k, by simpa using hj, ?_, by simpa using hk⟩
   rw [Nat.succ_mul]; omega
theorem spot_none {W : World} {a : Addr} {c : Value} (h0 : W.cell? a = some c) : a.spot = none := by
 unfold World.cell? at h0
 cases hs : a.spot with
 | none => rfl
 | some s => rw [hs] at h0; split at h0 <;> simp at h0
theorem open_slice {α H : Type} {enc : TypeId × Value → H} {P : Program} {W : World} {E : Enc α} {R : α → Prop} {t : TypeId} (ht : P.underlying t = some (.slice E.ty)) (hc : P.cellsOf E.ty = E.sz) (hO : Opens enc P W E R) {fuel : Nat} {cs : List Value} {x : DataW H × List MemPlace}
  (h : DataW.trod enc P W 0 (fun _ => true) true fuel t cs = some x) : ∃ (g : SH) (xs : List α), cs = [g.v] ∧ Rd E g xs W ∧ (∀ a ∈ xs, R a) ∧ xs.length ≤ maxLen := by
 rcases DataW.trod_slice ht h with ⟨rfl, _⟩ | ⟨a, len, cap, elems, rest, n, _, rfl, rfl, hb, hl, hm, hlen, hel, hsp, _⟩
 ·exact ⟨nilS, [], rfl, Go.Proofs.YtcpbibdbahfgaaaGreat.Rd.nil, by simp, by simp⟩
 obtain ⟨hrl, hr⟩ := hsp rfl
 have each : ∀ i, i < cap → ∃ cs', W.cells? 0 (a.add (i * P.cellsOf E.ty)) (P.cellsOf E.ty) = some cs' ∧ ∃ y, DataW.trod enc P W 0 (fun _ => true) true n E.ty cs' = some y := by
  intro i hi
  have : ∃ y, (W.cells? 0 (a.add (i * P.cellsOf E.ty)) (P.cellsOf E.ty)).bind (DataW.trod enc P W 0 (fun _ => true) true n E.ty) = some y := by
   by_cases h1 : i < len
   ·rw [hel i h1, List.getElem?_eq_getElem (by omega)]; exact ⟨_, rfl⟩
   ·have := hr (i - len) (by omega)
    rw [show len + (i - len) = i by omega] at this
    rw [this, List.getElem?_eq_getElem (by omega)]; exact ⟨_, rfl⟩
  obtain ⟨y, hy⟩ := this
  rw [Option.bind_eq_some_iff] at hy
  obtain ⟨cs', h1, h2⟩ := hy
  exact ⟨cs', h1, y, h2⟩
 obtain ⟨xs, hx1, hx2⟩ := exists_list (fun i y => R y ∧ W.cells? 0 (a.add (i * P.cellsOf E.ty)) (P.cellsOf E.ty) = some (E.f y)) len fun i hi => by
  obtain ⟨cs', h1, y, h2⟩ := each i (by omega)
  obtain ⟨z, rfl, hz⟩ := hO _ _ _ h2
  exact ⟨z, hz, h1⟩
 have hpos := E.pos
 have hsp : 0 < cap → a.spot = none := fun h0 => by
  obtain ⟨cs', h1, _⟩ := each 0 h0
  have h2 := (World.cells?_some h1).2.2 0 (by rw [hc]; exact hpos)
  have h3 := (World.cells?_some h1).2.1
  rw [Nat.zero_mul] at h2
  have e0 : (a.add 0).add 0 = a := rfl
  rw [e0, List.getElem?_eq_getElem (by rw [h3, hc]; exact hpos)] at h2
  exact spot_none h2
 refine ⟨⟨some a, len, cap⟩, xs, rfl, ⟨hx1.symm, (by show xs.length ≤ cap; omega), ?_, fun m c hmc => ?_⟩, fun y hy => ?_, by omega⟩
 ·by_cases h0 : 0 < cap
  ·left
   have := hsp h0
   obtain ⟨b, o, s⟩ := a
   simp only at this
   subst this; rfl
  ·right
   exact ⟨List.length_eq_zero_iff.1 (by omega), by simp only; omega⟩
 ·obtain ⟨j, k, hj, rfl, hk⟩ := flat_inv hmc
  have h1 := (hx2 j hj).2
  have hkl : k < E.sz := by have := (List.getElem?_eq_some_iff.1 hk).1; rwa [E.len] at this
  have h2 := (World.cells?_some h1).2.2 k (by rw [hc]; exact hkl)
  rw [hk] at h2
  have hs := hsp (by omega)
  obtain ⟨b, o, s⟩ := a
  simp only at hs
  subst hs
  rw [add_lit, add_lit, hc, Nat.add_assoc] at h2
  exact h2
 ·obtain ⟨i, hi, rfl⟩ := List.getElem_of_mem hy
  exact (hx2 i hi).1
end Go.Eng
namespace Go.Proofs.YtcpbibdbahfgaaaGreat
open Go.Eng Go.ChangeShapes
section
variable {H : Type} {enc : TypeId × Value → H} {W : World}
theorem wfI64 {n : Int} (h : (Lit.int .i64 n).wf = true) : -9223372036854775808 ≤ n ∧ n ≤ 9223372036854775807 := by
 simp only [Lit.wf, Bool.and_eq_true, decide_eq_true_eq] at h
 exact h
theorem wfU64' {n : Int} (h : (Lit.int .u64 n).wf = true) : 0 ≤ n ∧ n ≤ 18446744073709551615 := by
 simp only [Lit.wf, Bool.and_eq_true, decide_eq_true_eq] at h
 exact h
theorem wfU8' {n : Int} (h : (Lit.int .u8 n).wf = true) : 0 ≤ n ∧ n ≤ 255 := by
 simp only [Lit.wf, Bool.and_eq_true, decide_eq_true_eq] at h
 exact h
theorem len3 {α : Type} {cs : List α} (h : cs.length = 3) : ∃ a b c, cs = [a, b, c] := by
 match cs, h with
 | [a, b, c], _ => exact ⟨a, b, c, rfl⟩
theorem len5 {α : Type} {cs : List α} (h : cs.length = 5) : ∃ a b c d e, cs = [a, b, c, d, e] := by
 match cs, h with
 | [a, b, c, d, e], _ => exact ⟨a, b, c, d, e, rfl⟩
theorem trod_struct5 {P : Program} {base : Nat} {spare : Nat → Bool} {held : Bool} {t : TypeId} {f0 f1 f2 f3 f4 : Field} {fuel : Nat} {cs : List Value} {x : DataW H × List MemPlace} (ht : P.underlying t = some (.struct #[f0, f1, f2, f3, f4])) (h : DataW.trod enc P W base spare held fuel t cs = some x) :
  ∃ y0 y1 y2 y3 y4 n, cs.length = P.cellsOf t ∧ DataW.trod enc P W base spare held n f0.type ((cs.drop f0.offset).take (P.cellsOf f0.type)) = some y0 ∧ DataW.trod enc P W base spare held n f1.type ((cs.drop f1.offset).take (P.cellsOf f1.type)) = some y1 ∧
   DataW.trod enc P W base spare held n f2.type ((cs.drop f2.offset).take (P.cellsOf f2.type)) = some y2 ∧ DataW.trod enc P W base spare held n f3.type ((cs.drop f3.offset).take (P.cellsOf f3.type)) = some y3 ∧ DataW.trod enc P W base spare held n f4.type ((cs.drop f4.offset).take (P.cellsOf f4.type)) = some y4 := by
 obtain ⟨xs, n, _, rfl, hl, hlen, hf⟩ := DataW.trod_struct ht h
 match xs, hlen with
 | [y0, y1, y2, y3, y4], _ => exact ⟨y0, y1, y2, y3, y4, n, hl, by simpa using hf 0 f0 rfl, by simpa using hf 1 f1 rfl, by simpa using hf 2 f2 rfl, by simpa using hf 3 f3 rfl, by simpa using hf 4 f4 rfl⟩
theorem co_string : Tryz.prog.cellsOf 9 = 1 := by kernel_rfl
theorem co_bool : Tryz.prog.cellsOf 4 = 1 := by kernel_rfl
theorem co_int : Tryz.prog.cellsOf 3 = 1 := by kernel_rfl
theorem co_u8 : Tryz.prog.cellsOf 5 = 1 := by kernel_rfl
theorem co_u64 : Tryz.prog.cellsOf 34 = 1 := by kernel_rfl
theorem co_val : Tryz.prog.cellsOf 45 = 3 := by kernel_rfl
theorem co_wr : Tryz.prog.cellsOf 97 = 5 := by kernel_rfl
theorem co_wrs : Tryz.prog.cellsOf 35 = 1 := by kernel_rfl
theorem co_act : Tryz.prog.cellsOf 37 = 5 := by kernel_rfl
theorem opens_u64 : Opens enc Tryz.prog W eU64 (fun z => 0 ≤ z ∧ z ≤ 18446744073709551615) := fun fuel cs x h => by
 obtain ⟨n, rfl, _, hw⟩ := DataW.trod_int Tryz.underlying34 h
 exact ⟨n, rfl, wfU64' hw⟩
theorem opens_val : Opens enc Tryz.prog W eVal (fun v => 0 ≤ v.bits ∧ v.bits ≤ 18446744073709551615) := fun fuel cs x h => by
 obtain ⟨y0, y1, y2, n, _, hl, h0, h1, h2⟩ := Go.Deep.trod_struct3 Tryz.underlying45 h
 obtain ⟨a, b, c, rfl⟩ := len3 (hl.trans co_val)
 dsimp only at h0 h1 h2
 rw [co_bool] at h0
 rw [co_string] at h1
 rw [co_u64] at h2
 obtain ⟨t0, e0, _⟩ := DataW.trod_bool Tryz.underlying4 h0
 obtain ⟨t1, e1, _⟩ := DataW.trod_string Tryz.underlying9 h1
 obtain ⟨t2, e2, _, hw⟩ := DataW.trod_int Tryz.underlying34 h2
 simp at e0 e1 e2
 subst e0 e1 e2
 exact ⟨⟨t0, t1, t2⟩, rfl, wfU64' hw⟩
theorem opens_wr : Opens enc Tryz.prog W eWr (fun w => 0 ≤ w.val.bits ∧ w.val.bits ≤ 18446744073709551615) := fun fuel cs x h => by
 obtain ⟨y0, y1, y2, n, _, hl, h0, h1, h2⟩ := Go.Deep.trod_struct3 Tryz.underlying97 h
 obtain ⟨a, b, c, d, e, rfl⟩ := len5 (hl.trans co_wr)
 dsimp only at h0 h1 h2
 rw [co_string] at h0
 rw [co_bool] at h1
 rw [co_val] at h2
 obtain ⟨t0, e0, _⟩ := DataW.trod_string Tryz.underlying9 h0
 obtain ⟨t1, e1, _⟩ := DataW.trod_bool Tryz.underlying4 h1
 obtain ⟨v, e2, hv⟩ := opens_val _ _ _ h2
 simp [eVal, Val.cs] at e0 e1 e2
 obtain ⟨rfl, rfl, rfl⟩ := e2
 subst e0 e1
 exact ⟨⟨t0, t1, v⟩, rfl, hv⟩
structure ActRd (W : World) (a : ActV) : Prop where
 rd : Rd eWr a.hL a.ws W
 bits : ∀ w ∈ a.ws, 0 ≤ w.val.bits ∧ w.val.bits ≤ 18446744073709551615
 by' : 0 ≤ a.by' ∧ a.by' ≤ 255
 seq : a.seq ≤ 9223372036854775807
theorem ActRd.ok {a : ActV} (h : ActRd W a) : ActOk (Mem W) a := ⟨h.rd.mem, h.bits, h.by', h.seq⟩
theorem opens_act : Opens enc Tryz.prog W eAct (ActRd W) := fun fuel cs x h => by
 obtain ⟨y0, y1, y2, y3, y4, n, hl, h0, h1, h2, h3, h4⟩ := trod_struct5 Tryz.underlying37 h
 obtain ⟨a, b, c, d, e, rfl⟩ := len5 (hl.trans co_act)
 dsimp only at h0 h1 h2 h3 h4
 rw [co_int] at h0 h3
 rw [co_wrs] at h1
 rw [co_u8] at h2
 rw [co_string] at h4
 obtain ⟨t0, e0, _⟩ := DataW.trod_int Tryz.underlying3 h0
 obtain ⟨g, ws, e1, hrd, hw, _⟩ := open_slice (E := eWr) Tryz.underlying35 co_wr opens_wr h1
 obtain ⟨t2, e2, _, w2⟩ := DataW.trod_int Tryz.underlying5 h2
 obtain ⟨t3, e3, _, w3⟩ := DataW.trod_int Tryz.underlying3 h3
 obtain ⟨t4, e4, _⟩ := DataW.trod_string Tryz.underlying9 h4
 simp at e0 e1 e2 e3 e4
 subst e0 e1 e2 e3 e4
 exact ⟨⟨t0, g, t2, t3, t4, ws⟩, rfl, hrd, hw, wfU8' w2, (wfI64 w3).2⟩
end
end Go.Proofs.YtcpbibdbahfgaaaGreat
